/- Texts of this claim in one file: H25, H16, H17, H18, H19. -/
import Derived.Test.YthgnbeeobhfeaaaK6
set_option linter.all false
section
/- Walks: is there more than is looked at? The blocks that a block goes to (the document's). -/
namespace Go.Proofs.Ythgnbeeobhfeaaa.T
open Go.RowKit Go.Shelf Go.Proofs.YthgnbeeobhfeaaaW.PrintWords Go.Proofs.YthgnbeeobhfeaaaW.PrintLast

/-- What is told: if it is no, all is few. -/
def OverV (l03 : List S58) (n : Int) (cs : List S66) (v : Value) : Prop := ∃ o : Bool, v = .bool o ∧ (o = false → fewB l03 = true ∧ n ≤ 30 ∧ fewC (chsOf cs) = true)
theorem OverV.yes (l03 : List S58) (n : Int) (cs : List S66) : OverV l03 n cs (.bool true) := ⟨true, rfl, fun h => by cases h⟩
set_option maxRecDepth 100000 in
set_option maxHeartbeats 8000000 in
theorem over_any (s : ByteArray) (p : Int) (A2 : Option Addr) (n2 c2 : Nat) (A3 : Option Addr) (c3 : Nat) (l03 : List S58) (n : Int) (Al : Option Addr) (cl : Nat) (cs : List S66) (W : World) (hC : Kd.C k58 W A3 l03.length l03) (hCs : Kd.C k66 W Al cs.length cs) :
    Calls Try.prog 11 #[bodyV s p A2 n2 c2 A3 l03.length c3, .int .i64 n, .slice Al cs.length cl] W fun e W' => ∃ v, e = .returned v ∧ OverV l03 n cs v ∧ Below W.heap.size W W' := by
  have hl3 : l03.length ≤ 9223372036854775807 := hC.2.1
  have hlc : cs.length ≤ 9223372036854775807 := hCs.2.1
  have HC := Lib.hid hC
  have HCs := Lib.hid hCs
  clear hC hCs
  have hbx : BoxIs (W.alloc (.cells (bodyC s p A2 n2 c2 A3 l03.length c3) 25)) W.heap.size (bodyC s p A2 n2 c2 A3 l03.length c3) 25 := heap_alloc_new _ _
  have hb1 := below_alloc (Below.refl W.heap.size W) (.cells (bodyC s p A2 n2 c2 A3 l03.length c3) 25)
  have hc3 := hbx.cell 3 _ rfl
  go_enter Try.func11, Try.ntmps11
  by_cases k1 : l03.length > 30
  · have k1' : (l03.length : Int) > 30 := by omega
    go_wp2_with fail
    go_ret
    exact ⟨_, rfl, OverV.yes _ _ _, hb1⟩
  · have k1' : ¬ ((l03.length : Int) > 30) := by omega
    by_cases k2 : n > 30
    · go_wp2_with fail
      go_ret
      exact ⟨_, rfl, OverV.yes _ _ _, hb1⟩
    · by_cases k3 : cs.length > 90
      · have k3' : (cs.length : Int) > 90 := by omega
        go_wp2_with fail
        go_ret
        exact ⟨_, rfl, OverV.yes _ _ _, hb1⟩
      · have k3' : ¬ ((cs.length : Int) > 90) := by omega
        go_wp2_with fail
        generalize W.alloc (.cells (bodyC s p A2 n2 c2 A3 l03.length c3) 25) = W1 at *
        go_loopw [7] (fun u wr => ∃ i : Nat, u = .int .i64 i ∧ i ≤ l03.length ∧ Hid (wr = W1) ∧ Hid (∀ b ∈ l03.take i, b.f0.length ≤ 30 ∧ b.f1.f5.length ≤ 30)) (fun u _ => l03.length - (intOf u).toNat)
        case atStart => exact ⟨0, rfl, Nat.zero_le _, Lib.hid rfl, Lib.hid (fun b hb => by cases hb)⟩
        case round =>
          obtain ⟨i, rfl, hi, HW, HT⟩ := hrel
          obtain rfl := HW.out
          by_cases hlt : i < l03.length
          · obtain ⟨ad, A0, d0, A16, d16, rfl, hcc, hcd, _⟩ := bk_at HC.out i hlt
            have hc0 := pw_cell_below hb1 hcc
            have hc16 := pw_cell_below hb1 hcd
            have HTS : Hid ((rd_T58 l03 i).f0.length ≤ 30 → (rd_T58 l03 i).f1.f5.length ≤ 30 → ∀ b ∈ l03.take (i + 1), b.f0.length ≤ 30 ∧ b.f1.f5.length ≤ 30) := Lib.hid (fun h1 h2 b hb => by
              have he : l03[i] = rd_T58 l03 i := by simp [rd_T58, List.getElem?_eq_getElem hlt, List.getD_eq_getElem?_getD]
              rw [List.take_succ, List.getElem?_eq_getElem hlt] at hb
              rcases List.mem_append.1 hb with hb | hb
              · exact HT.out b hb
              · have : b = l03[i] := by simpa using hb
                rw [this, he]; exact ⟨h1, h2⟩)
            generalize (rd_T58 l03 i).f0.length = L at *
            generalize (rd_T58 l03 i).f1.f5.length = M at *
            clear hcc hcd
            by_cases m1 : L > 30
            · have m1' : (L : Int) > 30 := by omega
              go_wp2_with fail
              go_ret
              exact ⟨_, rfl, OverV.yes _ _ _, hb1⟩
            · have m1' : ¬ ((L : Int) > 30) := by omega
              by_cases m2 : M > 30
              · have m2' : (M : Int) > 30 := by omega
                go_wp2_with fail
                go_ret
                exact ⟨_, rfl, OverV.yes _ _ _, hb1⟩
              · have m2' : ¬ ((M : Int) > 30) := by omega
                go_wp2_with fail
                go_roundw
                case rel => exact ⟨i + 1, by go_num, by omega, Lib.hid (by first | rfl | trivial), Lib.hid (HTS.out (by omega) (by omega))⟩
                case measure => simp [intOf]; omega
          · obtain rfl : i = l03.length := by omega
            rw [List.take_length] at HT
            clear hlt hi
            go_wp2_with fail
            go_loopw [8] (fun u wr2 => ∃ i : Nat, u = .int .i64 i ∧ i ≤ cs.length ∧ Hid (wr2 = wr) ∧ Hid (∀ b ∈ cs.take i, b.f2.length ≤ 30 ∧ b.f3.length ≤ 30)) (fun u _ => cs.length - (intOf u).toNat)
            case atStart => exact ⟨0, rfl, Nat.zero_le _, Lib.hid rfl, Lib.hid (fun b hb => by cases hb)⟩
            case round =>
              obtain ⟨i, rfl, hi, HW2, HT2⟩ := hrel
              obtain rfl := HW2.out
              by_cases hlt : i < cs.length
              · obtain ⟨ad, A4, d4, A5, d5, rfl, hx0, hx1, hx2, hx3, hl2, hr2, hl3', hr3⟩ := at_T66 (Kd.C_below HCs.out hb1) (i : Int) (by omega) (by omega)
                rw [Int.toNat_natCast] at hx0 hx1 hx2 hx3
                have HTS : Hid ((rd_T66 cs i).f2.length ≤ 30 → (rd_T66 cs i).f3.length ≤ 30 → ∀ b ∈ cs.take (i + 1), b.f2.length ≤ 30 ∧ b.f3.length ≤ 30) := Lib.hid (fun h1 h2 b hb => by
                  have he : cs[i] = rd_T66 cs i := by simp [rd_T66, List.getElem?_eq_getElem hlt, List.getD_eq_getElem?_getD]
                  rw [List.take_succ, List.getElem?_eq_getElem hlt] at hb
                  rcases List.mem_append.1 hb with hb | hb
                  · exact HT2.out b hb
                  · have : b = cs[i] := by simpa using hb
                    rw [this, he]; exact ⟨h1, h2⟩)
                clear hr2 hr3 hl2 hl3'
                generalize (rd_T66 cs i).f2.length = L at *
                generalize (rd_T66 cs i).f3.length = M at *
                by_cases m1 : L > 30
                · have m1' : (L : Int) > 30 := by omega
                  go_wp2_with fail
                  go_ret
                  exact ⟨_, rfl, OverV.yes _ _ _, hb1⟩
                · have m1' : ¬ ((L : Int) > 30) := by omega
                  by_cases m2 : M > 30
                  · have m2' : (M : Int) > 30 := by omega
                    go_wp2_with fail
                    go_ret
                    exact ⟨_, rfl, OverV.yes _ _ _, hb1⟩
                  · have m2' : ¬ ((M : Int) > 30) := by omega
                    go_wp2_with fail
                    go_roundw
                    case rel => exact ⟨i + 1, by go_num, by omega, Lib.hid (by first | rfl | trivial), Lib.hid (HTS.out (by omega) (by omega))⟩
                    case measure => simp [intOf]; omega
              · obtain rfl : i = cs.length := by omega
                rw [List.take_length] at HT2
                clear hlt hi
                go_wp2_with fail
                go_ret
                refine ⟨_, rfl, ⟨false, rfl, fun _ => ⟨?_, by omega, ?_⟩⟩, hb1⟩
                · simp only [fewB, Bool.and_eq_true, decide_eq_true_eq, List.all_eq_true]
                  exact ⟨by omega, HT.out⟩
                · simp only [fewC, chsOf, Bool.and_eq_true, decide_eq_true_eq, List.all_eq_true, List.length_map, List.mem_map]
                  refine ⟨by omega, ?_⟩
                  rintro c ⟨b, hb, rfl⟩
                  exact HT2.out b hb
end Go.Proofs.Ythgnbeeobhfeaaa.T
end

section
/- Walks: the iterator over a row's numbers; rows of rows turned round, and held against each other. -/
namespace Go.Proofs.Ythgnbeeobhfeaaa.T
open Go.RowKit Go.Shelf Go.Proofs.YthgnbeeobhfeaaaW.PrintWords Go.Proofs.YthgnbeeobhfeaaaW.PrintLast
attribute [local go_sem] Oper.semAt_some

theorem values_any (A : Option Addr) (n c : Nat) (w : World) :
    Calls Try.prog 46 #[.slice A n c] w fun e w' => e = .returned (.func (.func 56) #[] #[.pointer (some ⟨w.heap.size, 0, none⟩)]) ∧ w' = w.alloc (.cells #[.slice A n c] 42) := by
  have hmf : ∀ (fn : Fn) (first cap : Array Value) (w : World), (Instr.makeFunc fn first cap).run Try.prog w = .ok (.func fn first cap) w := fun _ _ _ _ => rfl
  go_enter Try.func46, Try.ntmps46
  go_wp2
  go_ret
  exact ⟨rfl, rfl⟩

/-- Where an iterator's row lies, and what a world from there on has kept. -/
structure ValAt (W : World) (n0 gb : Nat) (A : Option Addr) (c : Nat) (xs : List Int) : Prop where
  hb : BoxIs W gb #[.slice A xs.length c] 42
  low : ∃ Wb : World, Below Wb.heap.size Wb W ∧ Wb.heap.size ≤ n0 ∧ (Kd.int .i64).C Wb A xs.length xs
section
variable {W W1 : World} {n0 gb : Nat} {A : Option Addr} {c : Nat} {xs : List Int}
theorem ValAt.keeps (h : ValAt W n0 gb A c xs) (hk : Kp3 n0 gb gb W W1) : ValAt W1 n0 gb A c xs := by
  obtain ⟨Wb, h1, h2, h3⟩ := h.low
  exact ⟨hk.2.1.trans h.hb, Wb, h1.trans (hk.1.mono h2), h2, h3⟩
theorem ValAt.C (h : ValAt W n0 gb A c xs) : (Kd.int .i64).C W A xs.length xs := by
  obtain ⟨Wb, h1, _, h3⟩ := h.low
  exact Kd.C_below h3 h1
end

set_option maxRecDepth 100000 in
set_option maxHeartbeats 2000000 in
theorem vals_in (n : Nat) (hn : 1 ≤ n) (l n0 gb : Nat) (A : Option Addr) (c : Nat) (xs : List Int) (hsz : xs.length ≤ 1000000)
    (J Jx : List { x : Int // x ∈ xs } → World → Prop)
    (hY : ∀ pre x W, J pre W → pre.length < xs.length → YieldAt Fence.wide (n - 1) Try.prog l #[.int .i64 x.1] W fun e W' =>
      (e = .returned (.bool true) ∧ J (pre ++ [x]) W' ∧ Kp3 n0 gb gb W W') ∨ (e = .returned (.bool false) ∧ Jx (pre ++ [x]) W'))
    (W : World) (hT : ValAt W n0 gb A c xs) (h0 : J [] W) :
    CallsIn Fence.wide n Try.prog 56 #[.func (.yield l) #[] #[], .pointer (some ⟨gb, 0, none⟩)] W fun e W' => (∃ v, e = .returned v) ∧
      ((∃ ys, ys.map (·.1) = xs ∧ J ys W') ∨ (∃ pre, pre.map (·.1) <+: xs ∧ Jx pre W')) := by
  have HT := Lib.hid hT
  have hcb : W.cell? ⟨gb, 0, none⟩ = some (.slice A xs.length c) := hT.hb.cell 0 _ rfl
  clear hT
  refine callsIn_of_wp Try.func56 rfl trivial ?_ rfl
  simp only [Try.ntmps56, List.size_toArray, List.length_cons, List.length_nil, Nat.reduceAdd, Nat.reduceSub, Array.replicate_succ, Array.replicate_zero, List.push_toArray, List.append_toArray, List.nil_append, List.cons_append]
  gi_wp2
  gi_loopw [7] (fun v wr => ∃ (kk : Nat) (pre : List { x : Int // x ∈ xs }), v = .int .i64 kk ∧ kk ≤ xs.length ∧ Hid (pre.map (·.1) = xs.take kk) ∧ Hid (ValAt wr n0 gb A c xs) ∧ J pre wr) (fun v _ => xs.length - (intOf v).toNat)
  case atStart => exact ⟨0, [], rfl, Nat.zero_le _, Lib.hid rfl, HT, h0⟩
  case round =>
    obtain ⟨kk, pre, rfl, hk, hp, ht, hJ⟩ := hrel
    clear hcb HT
    by_cases hlt : kk < xs.length
    · obtain ⟨ad', had, hcell⟩ := Kd.at_int ht.out.C (kk : Int) (by omega) (by omega)
      subst had
      have hmem : xs[kk] ∈ xs := List.getElem_mem hlt
      rw [rd_nat, Int.toNat_natCast, show xs.getD kk 0 = xs[kk] by simp [List.getD_eq_getElem?_getD, List.getElem?_eq_getElem hlt]] at hcell
      have hpl : pre.length ≤ kk := by
        have h1 := congrArg List.length hp.out
        rw [List.length_map, List.length_take] at h1
        omega
      have htk : Hid ((pre ++ [(⟨xs[kk], hmem⟩ : { x : Int // x ∈ xs })]).map (·.1) = xs.take (kk + 1)) := Lib.hid (by
        rw [List.map_append, hp.out, List.take_succ, List.getElem?_eq_getElem hlt]
        rfl)
      obtain ⟨y, hy1⟩ : ∃ y : { x : Int // x ∈ xs }, y = ⟨xs[kk], hmem⟩ := ⟨_, rfl⟩
      have hyv : xs[kk] = y.1 := by rw [hy1]
      rw [← hy1] at htk
      rw [hyv] at hcell
      clear hy1 hyv hmem
      obtain ⟨fn, tmps, assign, body, hy, hR⟩ := hY pre y wr hJ (by omega)
      (try dsimp only at hy)
      gi_wp2
      refine hR.mono ?_
      rintro e W3 (⟨rfl, hJ3, hk3⟩ | ⟨rfl, hJx3⟩)
      · have ht3 := Lib.hid (ht.out.keeps hk3)
        clear hk3
        gi_wp2
        go_roundw
        case rel => exact ⟨kk + 1, pre ++ [y], by go_num, by omega, htk, ht3, hJ3⟩
        case measure => simp [intOf]; omega
      · gi_wp2
        refine bodyPost_ret (results_none rfl _ _ _) rfl ?_
        exact ⟨⟨_, rfl⟩, .inr ⟨pre ++ [y], by rw [htk.out]; exact List.take_prefix _ _, hJx3⟩⟩
    · obtain rfl : kk = xs.length := by omega
      have hp' : Hid (pre.map (·.1) = xs) := Lib.hid (hp.out.trans (by rw [List.take_length]))
      clear hlt
      gi_wp2
      go_end0
      exact ⟨⟨_, rfl⟩, .inl ⟨pre, hp'.out, hJ⟩⟩
/-- .. as the laws on loops over functions ask for it. -/
theorem vals_stops (n : Nat) (hn : 1 ≤ n) (n0 gb : Nat) (A : Option Addr) (c : Nat) (xs : List Int) (hsz : xs.length ≤ 1000000) (w : World) (hn0 : n0 ≤ w.heap.size) (hgb : gb < w.heap.size) (hT : ValAt w n0 gb A c xs) :
    SeqStopsK Fence.wide n Try.prog 56 #[.pointer (some ⟨gb, 0, none⟩)] (fun x : { x : Int // x ∈ xs } => #[Value.int .i64 x.1]) (Kp3 n0 gb gb) (fun ys => ys.map (·.1) = xs) (fun pre => pre.map (·.1) <+: xs) xs.length w := fun l J Jx W hW _ _ hY h0 =>
  vals_in n hn l n0 gb A c xs hsz J Jx hY W (hT.keeps ⟨hW.mono hn0, hW.block _ hgb, hW.block _ hgb⟩) h0

/-! ### EqualFunc of rows of rows -/
theorem N2.few {W : World} {B : Nat} {v : Value} {xss : List (List Bool)} (h : N2 W B v xss) : xss.length ≤ 9223372036854775807 := by
  obtain ⟨vs, ho, _⟩ := h.own
  rcases ho.2 with ⟨_, h0⟩ | ⟨g, cap, cur, _, _, _, h1, h2, _⟩
  · omega
  · exact Nat.le_trans h1 (by simpa [maxLen] using h2)
set_option maxRecDepth 100000 in
set_option maxHeartbeats 2000000 in
theorem equalFunc_any {W : World} {B B' : Nat} {u v : Value} {x y : List (List Bool)} (hu : N2 W B u x) (hv : N2 W B' v y) (hx : x.length ≤ 9223372036854775807) (hn : ∀ r ∈ x, r.length ≤ 1000000) :
    Calls Try.prog 43 #[u, v, .func (.func 31) #[] #[]] W fun e W' => e = .returned (.bool (decide (x = y))) ∧ Below W.heap.size W W' := by
  obtain ⟨A, c, rfl⟩ := hu.slice
  obtain ⟨A', c', rfl⟩ := hv.slice
  have HU := Lib.hid hu
  have HV := Lib.hid hv
  have HN := Lib.hid hn
  clear hu hv hn
  go_enter Try.func43, Try.ntmps43
  by_cases hl : x.length = y.length
  · have c0 : ((x.length : Int) != (y.length : Int)) = false := by simp [hl]
    have c1 : (x.length == y.length) = true := by simp [hl]
    have c2 : (x.length != y.length) = false := by simp [hl]
    have HL := Lib.hid hl
    clear hl
    go_wp2_with fail
    clear c0 c1 c2
    go_loopw [17] (fun s wr => ∃ i : Nat, s = .int .i64 i ∧ i ≤ x.length ∧ Hid (x.take i = y.take i) ∧ Hid (Below W.heap.size W wr)) (fun s _ => x.length - (intOf s).toNat)
    case atStart => exact ⟨0, rfl, Nat.zero_le _, Lib.hid rfl, Lib.hid (Below.refl _ _)⟩
    case round =>
      obtain ⟨i, rfl, hi, hT, hB⟩ := hrel
      by_cases hlt : i < x.length
      · have hlt2 : i < y.length := by rw [← HL.out]; exact hlt
        obtain ⟨vs, ho, hvl, hin⟩ := (HU.out.below hB.out).own
        obtain ⟨vs', ho', hvl', hin'⟩ := (HV.out.below hB.out).own
        obtain ⟨g, cg, e1, _, _⟩ := ho.form (by omega)
        obtain ⟨g', cg', e2, _, _⟩ := ho'.form (by omega)
        injection e1 with e1 _ e3
        injection e2 with e2 _ e4
        subst e1 e3 e2 e4
        obtain ⟨p, hp⟩ : ∃ p, vs[i]? = some p := ⟨_, List.getElem?_eq_getElem (by omega)⟩
        obtain ⟨q, hq⟩ : ∃ q, vs'[i]? = some q := ⟨_, List.getElem?_eq_getElem (by omega)⟩
        have hpo := hin i p x[i] hp (List.getElem?_eq_getElem hlt)
        have hqo := hin' i q y[i] hq (List.getElem?_eq_getElem hlt2)
        have hc := ho.cells (g := g) rfl i p hp
        have hc' := ho'.cells (g := g') rfl i q hq
        rw [add_plain] at hc hc'
        obtain ⟨Ap, cp, hpv⟩ := own_slice hpo
        obtain ⟨Aq, cq, hqv⟩ := own_slice hqo
        have HE := Lib.hid (equal_any hpo hqo (HN.out _ (List.getElem_mem hlt)))
        rw [hpv, hqv] at HE
        rw [hpv] at hc
        rw [hqv] at hc'
        have hlti : (i : Int) < (y.length : Int) := by omega
        have htx : x.take (i + 1) = x.take i ++ [x[i]] := by rw [List.take_succ, List.getElem?_eq_getElem hlt]; rfl
        have hty : y.take (i + 1) = y.take i ++ [y[i]] := by rw [List.take_succ, List.getElem?_eq_getElem hlt2]; rfl
        have HX := Lib.hid htx
        have HY := Lib.hid hty
        have HXY : Hid (x[i] ≠ y[i] → x ≠ y) := Lib.hid (fun h e => h (by simp only [e]))
        generalize x[i] = xi at *
        generalize y[i] = yi at *
        clear ho ho' hin hin' hpo hqo hpv hqv hp hq htx hty hvl hvl'
        go_wp2_with fail
        refine HE.out.mono ?_
        rintro e w3 ⟨rfl, hb3⟩
        have HB3 := Lib.hid (hB.out.trans (hb3.mono hB.out.size))
        clear hb3 HE
        by_cases he : xi = yi
        · simp only [he, decide_true]
          go_wp2_with fail
          go_roundw
          case rel => exact ⟨i + 1, by go_num, by omega, Lib.hid (by rw [HX.out, HY.out, hT.out, he]), HB3⟩
          case measure => simp [intOf]; omega
        · simp only [he, decide_false]
          go_wp2_with fail
          go_ret
          exact ⟨by simp [HXY.out he], HB3.out⟩
      · obtain rfl : i = x.length := by omega
        clear hlt
        go_wp2_with fail
        go_ret
        refine ⟨?_, hB.out⟩
        have := hT.out
        rw [List.take_length, HL.out, List.take_length] at this
        simp [this]
  · have c0 : ((x.length : Int) != (y.length : Int)) = true := by simpa using fun h : (x.length : Int) = y.length => hl (by omega)
    have c1 : (x.length == y.length) = false := by simpa using hl
    have c2 : (x.length != y.length) = true := by simpa using hl
    have hne : x ≠ y := fun e => hl (by rw [e])
    go_wp2_with fail
    go_ret
    exact ⟨by simp [hne], Below.refl _ _⟩
theorem sameRows_any {W : World} {B B' : Nat} {u v : Value} {x y : List (List Bool)} (hu : N2 W B u x) (hv : N2 W B' v y) (hn : ∀ r ∈ x, r.length ≤ 1000000) :
    Calls Try.prog 42 #[u, v] W fun e W' => e = .returned (.bool (decide (x = y))) ∧ Below W.heap.size W W' := by
  have h := equalFunc_any hu hv hu.few hn
  obtain ⟨A, c, rfl⟩ := hu.slice
  obtain ⟨A', c', rfl⟩ := hv.slice
  have H := Lib.hid h
  clear h hu hv
  go_enter Try.func42, Try.ntmps42
  go_wp2_with fail
  refine H.out.mono ?_
  rintro e w3 ⟨rfl, hb⟩
  go_wp2_with fail
  go_ret
  exact ⟨rfl, hb⟩
end Go.Proofs.Ythgnbeeobhfeaaa.T
end

section
/- Walks: rows of rows turned round. -/
namespace Go.Proofs.Ythgnbeeobhfeaaa.T
open Go.RowKit Go.Shelf Go.Proofs.YthgnbeeobhfeaaaW.PrintWords Go.Proofs.YthgnbeeobhfeaaaW.PrintLast

/-- A row, turned round as far as i from both ends. -/
def revAt (vs : List Value) (i : Nat) : List Value := (List.range vs.length).map fun k => if k < i ∨ vs.length ≤ k + i then vs.getD (vs.length - 1 - k) undef else vs.getD k undef
theorem revAt_length (vs : List Value) (i : Nat) : (revAt vs i).length = vs.length := by simp [revAt]
theorem revAt_get (vs : List Value) (i k : Nat) (hk : k < vs.length) : (revAt vs i)[k]? = some (if k < i ∨ vs.length ≤ k + i then vs.getD (vs.length - 1 - k) undef else vs.getD k undef) := by
  simp [revAt, hk]
theorem revAt_zero (vs : List Value) : revAt vs 0 = vs := by
  apply List.ext_getElem?
  intro k
  by_cases hk : k < vs.length
  · rw [revAt_get _ _ _ hk, if_neg (by omega), List.getD_eq_getElem?_getD, List.getElem?_eq_getElem hk]; rfl
  · rw [List.getElem?_eq_none (by rw [revAt_length]; omega), List.getElem?_eq_none (by omega)]
theorem revAt_all (vs : List Value) {i : Nat} (h : vs.length ≤ 2 * i + 1) : revAt vs i = vs.reverse := by
  apply List.ext_getElem?
  intro k
  by_cases hk : k < vs.length
  · rw [revAt_get _ _ _ hk, List.getElem?_reverse hk]
    by_cases hc : k < i ∨ vs.length ≤ k + i
    · rw [if_pos hc, List.getD_eq_getElem?_getD, List.getElem?_eq_getElem (by omega)]
      rfl
    · rw [if_neg hc, List.getD_eq_getElem?_getD, show vs.length - 1 - k = k by omega, List.getElem?_eq_getElem hk]
      rfl
  · rw [List.getElem?_eq_none (by rw [revAt_length]; omega), List.getElem?_eq_none (by simp; omega)]
theorem revAt_step (vs : List Value) {i j : Nat} {a b : Value} (hij : i + j + 1 = vs.length) (h : i < j) (ha : vs[i]? = some a) (hb : vs[j]? = some b) : ((revAt vs i).set i b).set j a = revAt vs (i + 1) := by
  apply List.ext_getElem?
  intro k
  have hl := revAt_length vs i
  by_cases hk : k < vs.length
  · rw [revAt_get _ _ _ hk]
    by_cases h1 : j = k
    · subst h1
      rw [List.getElem?_set_self (by rw [List.length_set]; omega), if_pos (by omega), List.getD_eq_getElem?_getD, show vs.length - 1 - j = i by omega, ha]
      rfl
    · rw [List.getElem?_set_ne h1]
      by_cases h2 : i = k
      · subst h2
        rw [List.getElem?_set_self (by omega), if_pos (by omega), List.getD_eq_getElem?_getD, show vs.length - 1 - i = j by omega, hb]
        rfl
      · rw [List.getElem?_set_ne h2, revAt_get _ _ _ hk]
        by_cases hc : k < i ∨ vs.length ≤ k + i
        · rw [if_pos hc, if_pos (by omega)]
        · rw [if_neg hc, if_neg (by omega)]
  · rw [List.getElem?_eq_none (by simp; omega), List.getElem?_eq_none (by rw [revAt_length]; omega)]

set_option maxRecDepth 100000 in
set_option maxHeartbeats 4000000 in
theorem reverse_any {W : World} {B : Nat} {v : Value} {xss : List (List Bool)} (h : N2 W B v xss) (hl : xss.length ≤ 1000) :
    Calls Try.prog 41 #[v] W fun e W' => e = .returned (.tuple #[]) ∧ N2 W' B v xss.reverse ∧ W.grownBy W' v.ownBlock ∧ Stays 26 W W' := by
  obtain ⟨vs, ho, hvl, hin⟩ := h.own
  rcases Nat.eq_zero_or_pos xss.length with h0 | h0
  · obtain rfl : xss = [] := List.eq_nil_of_length_eq_zero h0
    obtain ⟨A, c, rfl⟩ := h.slice
    have H := Lib.hid h
    clear h ho hin
    go_enter Try.func41, Try.ntmps41
    go_wp2_with fail
    go_loopw [2, 3] (fun u2 u3 wr => u2 = .int .i64 0 ∧ u3 = .int .i64 (-1) ∧ wr = W) (fun _ _ _ => 0)
    case atStart => exact ⟨rfl, by go_num, rfl⟩
    case round =>
      obtain ⟨rfl, rfl, rfl⟩ := hrel
      go_wp2_with fail
      go_end0
      exact ⟨rfl, H.out, ⟨rfl, rfl, rfl, Nat.le_refl _, fun _ _ _ => rfl⟩, fun _ _ h _ => h⟩
  · obtain ⟨g, cap, rfl, hgB, _⟩ := ho.form h0
    have hvs : ∀ (i : Nat) (u : Value), vs[i]? = some u → ∃ A n c, u = .slice A n c := fun i u hu => by
      have hi := (List.getElem?_eq_some_iff.1 hu).1
      obtain ⟨A, c, e⟩ := own_slice (hin i u xss[i] hu (List.getElem?_eq_getElem (by omega)))
      exact ⟨A, _, c, e⟩
    have HVS := Lib.hid hvs
    have HIN := Lib.hid hin
    have HO : Hid (W.ownsRow B 26 1 (.slice (some ⟨g, 0, none⟩) xss.length cap) xss.length (revAt vs 0)) := Lib.hid (by rw [revAt_zero]; exact ho)
    obtain ⟨n, hn⟩ : ∃ n, n = xss.length := ⟨_, rfl⟩
    have HN := Lib.hid hn
    rw [← hn] at HO hvl hl h0
    rw [← hn]
    obtain ⟨c0, hc0⟩ := own_typed ho g rfl
    clear h ho hin hvs hn
    go_enter Try.func41, Try.ntmps41
    go_wp2_with fail
    go_loopw [2, 3] (fun u2 u3 wr => ∃ i j : Nat, u2 = .int .i64 i ∧ u3 = .int .i64 j ∧ i + j + 1 = n ∧ Hid (wr.ownsRow B 26 1 (.slice (some ⟨g, 0, none⟩) n cap) n (revAt vs i)) ∧ Hid (W.grownBy wr (some g)) ∧ Hid (Stays 26 W wr)) (fun _ u3 _ => (intOf u3).toNat)
    case atStart => exact ⟨0, n - 1, rfl, by (congr 1; omega), by omega, HO, Lib.hid ⟨rfl, rfl, rfl, Nat.le_refl _, fun _ _ _ => rfl⟩, Lib.hid (fun _ _ h _ => h)⟩
    case round =>
      clear HO
      obtain ⟨i, j, rfl, rfl, hij, HO, HG, HT⟩ := hrel
      by_cases hlt : i < j
      · obtain ⟨a, ha⟩ : ∃ a, vs[i]? = some a := ⟨_, List.getElem?_eq_getElem (by omega)⟩
        obtain ⟨b, hb⟩ : ∃ b, vs[j]? = some b := ⟨_, List.getElem?_eq_getElem (by omega)⟩
        have hca : (revAt vs i)[i]? = some a := by rw [revAt_get _ _ _ (by omega), if_neg (by omega), List.getD_eq_getElem?_getD, ha]; rfl
        have hcb : (revAt vs i)[j]? = some b := by rw [revAt_get _ _ _ (by omega), if_neg (by omega), List.getD_eq_getElem?_getD, hb]; rfl
        have HST := Lib.hid (revAt_step vs (by omega) hlt ha hb)
        obtain ⟨Ai, ni, ci, rfl⟩ := HVS.out i a ha
        obtain ⟨Aj, nj, cj, rfl⟩ := HVS.out j b hb
        have hci := HO.out.cells (g := g) rfl i _ hca
        have hcj := HO.out.cells (g := g) rfl j _ hcb
        rw [add_plain] at hci hcj
        obtain ⟨cg, hbk⟩ := own_typed HO.out g rfl
        have hlti : (i : Int) < (n : Int) := by omega
        have hltj : (j : Int) < (n : Int) := by omega
        have hcj2 : (wr.drew.setCell ⟨g, i, none⟩ (.slice Aj nj cj)).cell? ⟨g, j, none⟩ = some (.slice Aj nj cj) := by
          rw [World.cell?_setCell_other _ _ _ _ (by simp <;> omega)]
          exact hcj
        have HS1 := Lib.hid (HO.out.stored i (.slice Aj nj cj)).1
        have HBK := Lib.hid hbk
        clear ha hb hca hcb
        go_wp2_with fail
        rename_i K hK
        refine start_ (n := 16) (S := fun w' => w'.cell? ⟨g, i, none⟩ = some (.slice Ai ni ci) ∧ w'.cell? ⟨g, j, none⟩ = some (.slice Aj nj cj)) (ds := [13, 15]) #[false, false, false, false, false, false, false, false, false, false, false, false, false, false, false, false] (by kernel_rfl) rfl rfl ⟨pw_cell_below (below_drew (Below.refl _ _)) hci, pw_cell_below (below_drew (Below.refl _ _)) hcj⟩ (fun hHeld => ?_)
        refine pure_ (i := 0) (N := some 14) (v := ?_) (a' := ?_) #[true, false, false, false, false, false, false, false, false, false, false, false, false, false, false, false] rfl rfl (by kernel_rfl) (fun _ _ _ h => h) (Or.inl ⟨by rfl, ?_⟩) ?_ ?_
        rotate_left
        · intro w'
          go_simp
          with_reducible rfl
        rotate_left
        · simp only [Act.put, List.setIfInBounds_toArray, List.set_cons_zero, List.set_cons_succ, i64_w, i32_w]
          rfl
        refine pure_ (i := 1) (N := some 15) (v := ?_) (a' := ?_) #[true, true, false, false, false, false, false, false, false, false, false, false, false, false, false, false] rfl rfl (by kernel_rfl) (fun _ _ _ h => h) (Or.inl ⟨by rfl, ?_⟩) ?_ ?_
        rotate_left
        · intro w'
          go_simp
          with_reducible rfl
        rotate_left
        · simp only [Act.put, List.setIfInBounds_toArray, List.set_cons_zero, List.set_cons_succ, i64_w, i32_w]
          rfl
        refine pure_ (i := 2) (N := some 16) (v := ?_) (a' := ?_) #[true, true, true, false, false, false, false, false, false, false, false, false, false, false, false, false] rfl rfl (by kernel_rfl) (fun _ _ _ h => h) (Or.inl ⟨by rfl, ?_⟩) ?_ ?_
        rotate_left
        · intro w'
          go_simp
          with_reducible rfl
        rotate_left
        · simp only [Act.put, List.setIfInBounds_toArray, List.set_cons_zero, List.set_cons_succ, i64_w, i32_w]
          rfl
        refine pure_ (i := 3) (N := some 17) (v := ?_) (a' := ?_) #[true, true, true, true, false, false, false, false, false, false, false, false, false, false, false, false] rfl rfl (by kernel_rfl) (fun _ _ _ h => h) (Or.inl ⟨by rfl, ?_⟩) ?_ ?_
        rotate_left
        · intro w'
          go_simp
          with_reducible rfl
        rotate_left
        · simp only [Act.put, List.setIfInBounds_toArray, List.set_cons_zero, List.set_cons_succ, i64_w, i32_w]
          rfl
        refine pure_ (i := 4) (N := some 18) (v := ?_) (a' := ?_) #[true, true, true, true, true, false, false, false, false, false, false, false, false, false, false, false] rfl rfl (by kernel_rfl) (fun _ _ _ h => h) (Or.inl ⟨by rfl, ?_⟩) ?_ ?_
        rotate_left
        · intro w'
          go_simp
          with_reducible rfl
        rotate_left
        · simp only [Act.put, List.setIfInBounds_toArray, List.set_cons_zero, List.set_cons_succ, i64_w, i32_w]
          rfl
        refine pure_ (i := 5) (N := some 19) (v := ?_) (a' := ?_) #[true, true, true, true, true, true, false, false, false, false, false, false, false, false, false, false] rfl rfl (by kernel_rfl) (fun _ _ _ h => h) (Or.inl ⟨by rfl, ?_⟩) ?_ ?_
        rotate_left
        · intro w'
          go_simp
          with_reducible rfl
        rotate_left
        · simp only [Act.put, List.setIfInBounds_toArray, List.set_cons_zero, List.set_cons_succ, i64_w, i32_w]
          rfl
        refine pure_ (i := 6) (N := some 20) (v := ?_) (a' := ?_) #[true, true, true, true, true, true, true, false, false, false, false, false, false, false, false, false] rfl rfl (by kernel_rfl) (fun _ _ _ h => h) (Or.inl ⟨by rfl, ?_⟩) ?_ ?_
        rotate_left
        · intro w'
          go_simp
          with_reducible rfl
        rotate_left
        · simp only [Act.put, List.setIfInBounds_toArray, List.set_cons_zero, List.set_cons_succ, i64_w, i32_w]
          rfl
        refine pure_ (i := 8) (N := some 22) (v := ?_) (a' := ?_) #[true, true, true, true, true, true, true, false, true, false, false, false, false, false, false, false] rfl rfl (by kernel_rfl) (fun _ _ _ h => h) (Or.inl ⟨by rfl, ?_⟩) ?_ ?_
        rotate_left
        · intro w'
          go_simp
          with_reducible rfl
        rotate_left
        · simp only [Act.put, List.setIfInBounds_toArray, List.set_cons_zero, List.set_cons_succ, i64_w, i32_w]
          rfl
        refine pure_ (i := 9) (N := some 23) (v := ?_) (a' := ?_) #[true, true, true, true, true, true, true, false, true, true, false, false, false, false, false, false] rfl rfl (by kernel_rfl) (fun _ _ _ h => h) (Or.inl ⟨by rfl, ?_⟩) ?_ ?_
        rotate_left
        · intro w'
          go_simp
          with_reducible rfl
        rotate_left
        · simp only [Act.put, List.setIfInBounds_toArray, List.set_cons_zero, List.set_cons_succ, i64_w, i32_w]
          rfl
        refine pure_ (i := 10) (N := some 24) (v := ?_) (a' := ?_) #[true, true, true, true, true, true, true, false, true, true, true, false, false, false, false, false] rfl rfl (by kernel_rfl) (fun _ _ _ h => h) (Or.inl ⟨by rfl, ?_⟩) ?_ ?_
        rotate_left
        · intro w'
          go_simp
          with_reducible rfl
        rotate_left
        · simp only [Act.put, List.setIfInBounds_toArray, List.set_cons_zero, List.set_cons_succ, i64_w, i32_w]
          rfl
        refine take_ (i := 7) (N := some 21) (v := ?_) (a' := ?_) #[true, true, true, true, true, true, true, true, true, true, true, false, false, false, false, false] rfl rfl (by kernel_rfl) (fun _ _ _ h => h) (Or.inl ⟨by rfl, ?_⟩) hHeld ?_ ?_
        rotate_left
        · rintro w' ⟨s0, s1⟩
          go_simp
          with_reducible rfl
        rotate_left
        · simp only [Act.put, List.setIfInBounds_toArray, List.set_cons_zero, List.set_cons_succ, i64_w, i32_w]
          rfl
        refine take_ (i := 11) (N := some 25) (v := ?_) (a' := ?_) #[true, true, true, true, true, true, true, true, true, true, true, true, false, false, false, false] rfl rfl (by kernel_rfl) (fun _ _ _ h => h) (Or.inl ⟨by rfl, ?_⟩) hHeld ?_ ?_
        rotate_left
        · rintro w' ⟨s0, s1⟩
          go_simp
          with_reducible rfl
        rotate_left
        · simp only [Act.put, List.setIfInBounds_toArray, List.set_cons_zero, List.set_cons_succ, i64_w, i32_w]
          rfl
        refine pure_ (i := 12) (N := some 26) (v := ?_) (a' := ?_) #[true, true, true, true, true, true, true, true, true, true, true, true, true, false, false, false] rfl rfl (by kernel_rfl) (fun _ _ _ h => h) (Or.inl ⟨by rfl, ?_⟩) ?_ ?_
        rotate_left
        · intro w'
          go_simp
          with_reducible rfl
        rotate_left
        · simp only [Act.put, List.setIfInBounds_toArray, List.set_cons_zero, List.set_cons_succ, i64_w, i32_w]
          rfl
        refine last_ (i := 13) (N := none) #[true, true, true, true, true, true, true, true, true, true, true, true, true, true, false, false] rfl rfl (by kernel_rfl) (by decide) (fun K hK => ?_)
        have hfz1 := frozen_box (W := wr.drew) (g := g) hbk i
        have hcz1 := pw_cell_below (below_drew (Below.refl wr.heap.size wr)) hci
        refine skip_ (w1 := ?_) (by rfl) rfl ?_ ?_
        rotate_left
        · go_simp
          rfl
        refine hK.out _ _ ?_
        clear hK K
        refine pure_ (i := 14) (N := some 27) (v := ?_) (a' := ?_) #[true, true, true, true, true, true, true, true, true, true, true, true, true, true, true, false] rfl rfl (by kernel_rfl) (fun _ _ _ h => h) (Or.inl ⟨by rfl, ?_⟩) ?_ ?_
        rotate_left
        · intro w'
          go_simp
          with_reducible rfl
        rotate_left
        · simp only [Act.put, List.setIfInBounds_toArray, List.set_cons_zero, List.set_cons_succ, i64_w, i32_w]
          rfl
        refine last_ (i := 15) (N := none) #[true, true, true, true, true, true, true, true, true, true, true, true, true, true, true, true] rfl rfl (by kernel_rfl) (by decide) (fun K hK => ?_)
        have hbk2 := set_block (j := i) hbk (.slice Aj nj cj)
        have hfz2 := frozen_box (g := g) hbk2 j
        have hcz2 : (wr.drew.setCell ⟨g, i, none⟩ (.slice Aj nj cj)).cell? ⟨g, j, none⟩ = some (.slice Aj nj cj) := hcj2
        refine skip_ (w1 := ?_) (by rfl) rfl ?_ ?_
        rotate_left
        · go_simp
          rfl
        refine hK.out _ _ ?_
        clear hK K
        refine done_ (by kernel_rfl) ?_
        refine hK _ _ ?_
        clear hK K hHeld
        have HS2 := Lib.hid (HS1.out.stored j (.slice Ai ni ci)).1
        have HG2 := Lib.hid ((HG.out.trans (set_grown wr g i (.slice Aj nj cj))).trans (set_grown _ g j (.slice Ai ni ci)))
        have hb2 := set_block (j := i) HBK.out (.slice Aj nj cj)
        have HT2 : Hid (Stays 26 W ((wr.setCell ⟨g, i, none⟩ (.slice Aj nj cj)).setCell ⟨g, j, none⟩ (.slice Ai ni ci))) := Lib.hid (fun k ob hk hn => set_typed (g := g) hb2 j _ k ob (set_typed (g := g) HBK.out i _ k ob (HT.out k ob hk hn) hn) hn)
        clear HS1 HBK hbk hb2 hci hcj hcj2 hbk2 hfz1 hcz1 hfz2 hcz2
        go_wp2_with fail
        go_roundw
        case rel => exact ⟨i + 1, j - 1, by go_num, by (congr 1; omega), by omega, Lib.hid (by rw [← HST.out]; exact HS2.out), Lib.hid ⟨HG2.out.os, HG2.out.tape, HG2.out.output, HG2.out.size, HG2.out.block⟩, Lib.hid (fun k ob a b => HT2.out k ob a b)⟩
        case measure => simp [intOf]; omega
      · clear HVS
        go_wp2_with fail
        go_end0
        have hrev : revAt vs i = vs.reverse := revAt_all vs (by omega)
        have ho := HO.out
        rw [hrev] at ho
        refine ⟨rfl, ⟨vs.reverse, by rw [List.length_reverse, hvl]; exact ho, by rw [List.length_reverse, List.length_reverse, hvl, HN.out], fun k u xs hu hx => ?_⟩, HG.out, HT.out⟩
        have hk : k < vs.length := by have := (List.getElem?_eq_some_iff.1 hu).1; simpa using this
        rw [List.getElem?_reverse hk] at hu
        have hnx := HN.out
        rw [List.getElem?_reverse (by omega), ← hnx, ← hvl] at hx
        have := HIN.out _ u xs hu hx
        exact own_typed_move (T := 26) this (by decide) HT.out
end Go.Proofs.Ythgnbeeobhfeaaa.T
end

section
/- Walks: what is needed ahead of each step of a block (the program's). -/
namespace Go.Proofs.Ythgnbeeobhfeaaa.T
open Go.RowKit Go.Shelf Go.Proofs.YthgnbeeobhfeaaaW.PrintWords Go.Proofs.YthgnbeeobhfeaaaW.PrintLast
attribute [local go_sem] Oper.semAt_some

/-! ### Plainly -/
def hd0 (x : List (List Bool)) : List Bool := x.headD []
def joinL (o : Nat → List (List Bool)) (l : List Int) (x : List Bool) : List Bool := l.foldl (fun s k => mergeL false s (hd0 (o k.toNat))) x
/-- What is needed behind a block, of what is needed ahead of others. -/
def backIn (bs : List Bk) (N : Nat) (o : Nat → List (List Bool)) (n : Nat) : List Bool := joinL o (succI bs n) (List.replicate N false)
def backG (bs : List Bk) (cs : List Ch) (N : Nat) (o : Nat → List (List Bool)) (n : Nat) : List (List Bool) := backStates cs n ((bs[n]?.map Bk.ins).getD 0 + 1) (backIn bs N o n)
/-- Rows of N flags, one at least. -/
def Shp (N : Nat) (x : List (List Bool)) : Prop := x ≠ [] ∧ ∀ r ∈ x, r.length = N
theorem Shp.head {N : Nat} {x : List (List Bool)} (h : Shp N x) : (hd0 x).length = N ∧ x[0]? = some (hd0 x) := by
  obtain ⟨h1, h2⟩ := h
  cases x with
  | nil => exact absurd rfl h1
  | cons a x => exact ⟨h2 a List.mem_cons_self, rfl⟩
theorem joinL_snoc (o : Nat → List (List Bool)) (l : List Int) (k : Int) (x : List Bool) : joinL o (l ++ [k]) x = mergeL false (joinL o l x) (hd0 (o k.toNat)) := by
  simp [joinL, List.foldl_append]
theorem joinL_length {N : Nat} {o : Nat → List (List Bool)} (ho : ∀ i, Shp N (o i)) : ∀ (l : List Int) {x : List Bool}, x.length = N → (joinL o l x).length = N
  | [], _, h => h
  | k :: l, x, h => by
    show (joinL o l _).length = N
    refine joinL_length ho l ?_
    rw [mergeL_length (by rw [h, (ho k.toNat).head.1]), h]
/-- The flags behind the last step, and those ahead of t steps. -/
def downAt (cs : List Ch) (b : Int) (L : Nat) (e : List Bool) : Nat → List Bool
  | 0 => e
  | t + 1 => stepL cs b ((L - t : Nat) : Int) (downAt cs b L e t)
theorem downAt_length (cs : List Ch) (b : Int) (L : Nat) (e : List Bool) : ∀ t, (downAt cs b L e t).length = e.length
  | 0 => rfl
  | t + 1 => (stepL_length _ _ _ _).trans (downAt_length cs b L e t)
theorem backStates_down (cs : List Ch) (b : Int) (L : Nat) (e : List Bool) : ∀ (r t : Nat), t + r = L + 1 → backStates cs b r (downAt cs b L e t) = ((List.range (r + 1)).map fun s => downAt cs b L e (t + s)).reverse
  | 0, t, h => rfl
  | r + 1, t, h => by
    have hr : (r : Int) = ((L - t : Nat) : Int) := by omega
    rw [backStates, hr]
    rw [show stepL cs b ((L - t : Nat) : Int) (downAt cs b L e t) = downAt cs b L e (t + 1) from rfl, backStates_down cs b L e r (t + 1) (by omega), List.range_succ_eq_map (n := r + 1), List.map_cons, List.reverse_cons, List.map_map]
    congr 2
    apply List.map_congr_left
    intro s _
    simp only [Function.comp]
    congr 1
    omega
theorem backStates_all (cs : List Ch) (b : Int) (L : Nat) (e : List Bool) : backStates cs b (L + 1) e = ((List.range (L + 2)).map fun s => downAt cs b L e s).reverse := by
  have := backStates_down cs b L e (L + 1) 0 (by omega)
  simpa [downAt] using this

theorem grown_drew {W W' : World} {r : Option Nat} (h : W.grownBy W' r) : W.grownBy W'.drew r := ⟨h.os, h.tape, h.output, h.size, h.block⟩
theorem N2.setBox {W : World} {B g : Nat} {v : Value} {xss : List (List Bool)} {c : Array Value} (h : N2 W B v xss) (hb : BoxIs W g c 26) (hne : ∀ k, v.ownBlock = some k → k ≠ g) (u : Value) : N2 (W.setCell ⟨g, 0, none⟩ u) B v xss := by
  obtain ⟨vs, h1, h2, h3⟩ := h
  exact ⟨vs, own_move h1 (fun k e => (set_grown W g 0 u).block k (own_lt h1 k e) (fun e' => hne k e (by injection e'))), h2, fun i u' xs hu hx => own_typed_move (T := 26) (h3 i u' xs hu hx) (by decide) (set_typed hb 0 u)⟩
/-! ### The walk -/
/-- What is known between two looks. -/
structure BkAt (w0 W : World) (gt gbb ga go mb N : Nat) (s : ByteArray) (p : Int) (A2 : Option Addr) (n2 c2 : Nat) (A3 : Option Addr) (c3 : Nat) (l03 : List S58) (cs : List S66) (o : Nat → List (List Bool)) : Prop where
  tb : BoxIs W gt #[.int .i64 N, .map (some mb)] 76
  bod : BoxIs W gbb (bodyC s p A2 n2 c2 A3 l03.length c3) 25
  all : BoxIs W ga #[.slice (some ⟨go, 0, none⟩) l03.length l03.length] 31
  tab : TabIs w0 W w0.heap.size mb cs
  low : Below w0.heap.size w0 W
  row : ∃ vs, W.ownsRow w0.heap.size 44 1 (.slice (some ⟨go, 0, none⟩) l03.length l03.length) l03.length vs ∧ ∀ (i : Nat) (u : Value), vs[i]? = some u → N2 W w0.heap.size u (o i)
  shp : ∀ i, Shp N (o i)
section
variable {w0 W W' : World} {gt gbb ga go mb N : Nat} {s : ByteArray} {p : Int} {A2 : Option Addr} {n2 c2 : Nat} {A3 : Option Addr} {c3 : Nat} {l03 : List S58} {cs : List S66} {o : Nat → List (List Bool)}
theorem BkAt.below (h : BkAt w0 W gt gbb ga go mb N s p A2 n2 c2 A3 c3 l03 cs o) (hb : Below W.heap.size W W') : BkAt w0 W' gt gbb ga go mb N s p A2 n2 c2 A3 c3 l03 cs o := by
  obtain ⟨vs, h1, h2⟩ := h.row
  exact ⟨h.tb.below hb h.tb.lt, h.bod.below hb h.bod.lt, h.all.below hb h.all.lt, h.tab.below hb, below_then h.low h.low.size hb, ⟨vs, pw_own_below h1 hb, fun i u hu => (h2 i u hu).below hb⟩, h.shp⟩
/-- The first row of a block's rows. -/
theorem BkAt.get (h : BkAt w0 W gt gbb ga go mb N s p A2 n2 c2 A3 c3 l03 cs o) {k : Nat} (hk : k < l03.length) : ∃ (g c : Nat) (Ah : Option Addr) (ch : Nat), W.cell? ⟨go, k, none⟩ = some (.slice (some ⟨g, 0, none⟩) (o k).length c) ∧ W.cell? ⟨g, 0, none⟩ = some (.slice Ah N ch) ∧ Kd.bool.C W Ah N (hd0 (o k)) := by
  obtain ⟨vs, h1, h2⟩ := h.row
  have hl := h1.1
  obtain ⟨u, hu⟩ : ∃ u, vs[k]? = some u := ⟨_, List.getElem?_eq_getElem (by omega)⟩
  have hc := h1.cells (g := go) rfl k u hu
  rw [add_plain] at hc
  obtain ⟨us, ho, hul, hin⟩ := (h2 k u hu).own
  have hsh := (h.shp k).head
  have hpos : 0 < (o k).length := by
    cases hx : o k with
    | nil => exact absurd hx (h.shp k).1
    | cons a x => simp
  obtain ⟨g, c, rfl, _, _⟩ := ho.form hpos
  obtain ⟨q, hq⟩ : ∃ q, us[0]? = some q := ⟨_, List.getElem?_eq_getElem (by omega)⟩
  have hc0 := ho.cells (g := g) rfl 0 q hq
  rw [add_plain] at hc0
  obtain ⟨Ah, ch, rfl, _, hC⟩ := OB.reads (hin 0 q _ hq hsh.2)
  rw [hsh.1] at hC hc0
  exact ⟨g, c, Ah, ch, hc, hc0, hC⟩
end

set_option maxRecDepth 100000 in
set_option maxHeartbeats 16000000 in
theorem bstates_any {w0 W : World} {gt gbb ga go mb N : Nat} {s : ByteArray} {p : Int} {A2 : Option Addr} {n2 c2 : Nat} {A3 : Option Addr} {c3 : Nat} {l03 : List S58} {cs : List S66} {o : Nat → List (List Bool)}
    (h : BkAt w0 W gt gbb ga go mb N s p A2 n2 c2 A3 c3 l03 cs o) (hN : N ≤ 1000) (n : Nat) (hn : n < l03.length) (hm : l03.length ≤ 1000) (hC : Kd.C k58 w0 A3 l03.length l03) (hcl : cs.length ≤ 1000) (hins : (rd_T58 l03 n).f0.length ≤ 900) (hto : (rd_T58 l03 n).f1.f5.length ≤ 1000) :
    Calls Try.prog 38 #[.int .i64 n, .pointer (some ⟨gt, 0, none⟩), .pointer (some ⟨gbb, 0, none⟩), .pointer (some ⟨ga, 0, none⟩)] W fun e W' => ∃ v, e = .returned v ∧ N2 W' W.heap.size v (backG (bksOf l03) (chsOf cs) N o n) ∧ Below W.heap.size W W' := by
  have hbl := bksOf_length l03
  have hlow := h.low.size
  have htc0 : W.cell? ⟨gt, 0, none⟩ = some (.int .i64 N) := h.tb.cell 0 _ rfl
  have htc1 : W.cell? ⟨gt, 1, none⟩ = some (.map (some mb)) := h.tb.cell 1 _ rfl
  have H := Lib.hid h
  have HC := Lib.hid hC
  clear h hC
  refine (callsIn_wide (n := 9)).1 ?_
  refine callsIn_of_wp_marks Try.func38 rfl trivial ?_ rfl
  simp only [Try.ntmps38, List.size_toArray, List.length_cons, List.length_nil, Nat.reduceAdd, Nat.reduceSub, Array.replicate_succ, Array.replicate_zero, List.push_toArray, List.append_toArray, List.nil_append, List.cons_append]
  gi_wp2
  refine ⟨trivial, (callsIn_wide.2 (flags_any W N (some mb) false (by omega))).mono ?_⟩
  rintro e w1 ⟨v1, rfl, ho1, hb1⟩
  obtain ⟨Af, cf, hvf⟩ := own_slice ho1
  rw [List.length_replicate] at hvf
  subst hvf
  clear htc0 htc1
  have hbd := H.out.bod.below hb1 H.out.bod.lt
  have hcb : ∀ (ob : Obj) j v, (bodyC s p A2 n2 c2 A3 l03.length c3)[j]? = some v → (w1.alloc ob).cell? ⟨gbb, j, none⟩ = some v := fun ob j v hv => (hbd.below (below_alloc (Below.refl _ _) ob) hbd.lt).cell j v hv
  have hcb0 := fun ob => hcb ob 0 _ rfl
  have hcb1 := fun ob => hcb ob 1 _ rfl
  have hcb2 := fun ob => hcb ob 2 _ rfl
  have hcb3 := fun ob => hcb ob 3 _ rfl
  have HB1 := Lib.hid hb1
  have HO1 := Lib.hid ho1
  clear hcb hbd hb1 ho1
  gi_wp2
  refine ⟨trivial, (callsIn_wide.2 (to_any s p A2 n2 c2 A3 l03.length c3 n _)).mono ?_⟩
  rintro e w' ⟨rfl, rfl⟩
  clear hcb0 hcb1 hcb2 hcb3
  gi_wp2
  have hbox : BoxIs (w1.alloc (.cells #[.slice Af N cf] 26)) w1.heap.size #[.slice Af N cf] 26 := heap_alloc_new _ _
  have hb2 := below_alloc (below_alloc (below_alloc (Below.refl w1.heap.size w1) (.cells #[.slice Af N cf] 26)) (.cells (bodyC s p A2 n2 c2 A3 l03.length c3) 25)) (.cells #[.int .i64 n] 3)
  have hgb : BoxIs ((w1.alloc (.cells #[.slice Af N cf] 26)).alloc (.cells (bodyC s p A2 n2 c2 A3 l03.length c3) 25)) (w1.heap.size + 1) (bodyC s p A2 n2 c2 A3 l03.length c3) 25 := by
    have := heap_alloc_new (w1.alloc (.cells #[.slice Af N cf] 26)) (.cells (bodyC s p A2 n2 c2 A3 l03.length c3) 25)
    rwa [World.size_alloc] at this
  have hga : BoxIs (((w1.alloc (.cells #[.slice Af N cf] 26)).alloc (.cells (bodyC s p A2 n2 c2 A3 l03.length c3) 25)).alloc (.cells #[.int .i64 n] 3)) (w1.heap.size + 1 + 1) #[.int .i64 n] 3 := by
    have := heap_alloc_new ((w1.alloc (.cells #[.slice Af N cf] 26)).alloc (.cells (bodyC s p A2 n2 c2 A3 l03.length c3) 25)) (.cells #[.int .i64 n] 3)
    rwa [World.size_alloc, World.size_alloc] at this
  have hbox2 := (hbox.below (below_alloc (Below.refl _ _) (.cells (bodyC s p A2 n2 c2 A3 l03.length c3) 25)) hbox.lt)
  have hbox3 := (hbox2.below (below_alloc (Below.refl _ _) (.cells #[.int .i64 n] 3)) hbox2.lt)
  have hgb3 := (hgb.below (below_alloc (Below.refl _ _) (.cells #[.int .i64 n] 3)) hgb.lt)
  have hs0 : (((w1.alloc (.cells #[.slice Af N cf] 26)).alloc (.cells (bodyC s p A2 n2 c2 A3 l03.length c3) 25)).alloc (.cells #[.int .i64 n] 3)).heap.size = w1.heap.size + 3 := by simp
  clear hbox hbox2 hgb
  generalize ((w1.alloc (.cells #[.slice Af N cf] 26)).alloc (.cells (bodyC s p A2 n2 c2 A3 l03.length c3) 25)).alloc (.cells #[.int .i64 n] 3) = W0 at *
  have hsz1 := HB1.out.size
  have hbW0 : Below W.heap.size W W0 := below_then HB1.out HB1.out.size hb2
  have hT : ToAt W0 W.heap.size (w1.heap.size + 1) (w1.heap.size + 1 + 1) s p A2 n2 c2 A3 c3 l03 n := ⟨hgb3, hga, w0, below_then H.out.low H.out.low.size hbW0, hlow, HC.out⟩
  have HX0 : Hid (OB W0 W.heap.size (.slice Af N cf) (List.replicate N false)) := Lib.hid (pw_own_below HO1.out hb2)
  have hAf : ∀ k, (Value.slice Af N cf).ownBlock = some k → k < w1.heap.size := fun k e => own_lt HO1.out k e
  refine wpIn_rangeFunc_ownG rfl (by decide) (gf := 53) (lb := #[.pointer (some ⟨w1.heap.size + 1, 0, none⟩), .pointer (some ⟨w1.heap.size + 1 + 1, 0, none⟩)]) rfl trivial (enters_of Try.func53 (by kernel_rfl) rfl)
    (to_stops 8 (by decide) W.heap.size (w1.heap.size + 1) (w1.heap.size + 1 + 1) s p A2 n2 c2 A3 c3 l03 n hn (by omega) (by omega) W0 (by omega) (by omega) (by omega) hT) kp3_t (kp3_b (by omega) (by omega) (by omega)) (Below.refl _ _) (fun _ => rfl)
    (fun pre Wc => Below W.heap.size W Wc ∧ BoxIs Wc w1.heap.size #[.slice Af N cf] 26 ∧ OB Wc W.heap.size (.slice Af N cf) (joinL o (pre.map (·.1)) (List.replicate N false)) ∧ W0.heap.size ≤ Wc.heap.size)
    (fun _ _ _ => False) ?hI (fun _ _ _ _ _ hs _ _ => hs) ⟨hbW0, hbox3, HX0.out, Nat.le_refl _⟩
    (fun x => { tmps := #[.int .i64 n, .pointer (some ⟨gt, 0, none⟩), .pointer (some ⟨gbb, 0, none⟩), .pointer (some ⟨ga, 0, none⟩), undef, .slice none 0 0, .pointer (some ⟨w1.heap.size, 0, none⟩), .int .i64 x.1, undef, undef, undef, undef, .agg #[.int .i64 N, .map (some mb)], .slice Af N cf, .agg #[.string s, .int .i64 p, .slice A2 n2 c2, .slice A3 l03.length c3], .int .i64 n, .func (.func 53) #[] #[.pointer (some ⟨w1.heap.size + 1, 0, none⟩), .pointer (some ⟨w1.heap.size + 1 + 1, 0, none⟩)], .int .i64 x.1, undef, undef, undef, undef, undef, undef, undef, undef, undef, undef, undef, undef, undef, undef, undef, undef, undef, undef, undef, undef, undef, undef, undef, undef, undef, undef, undef, undef, undef, undef, undef, undef, undef, undef, undef, undef, undef, undef, undef, undef, undef, undef, undef, undef, undef, undef, undef, undef, undef], defers := [] }) ?assign ?body ?done ?stop
  case hI =>
    rintro pre Wc W' row ⟨h1, h2, h3, h4⟩ hg hr
    refine ⟨h1.grown hg h1.size (fun k e => by have := (hr k e).1; omega), (own_quiet hg hr _ _ _ _ h2).trans h2, own_move h3 (fun k e => ?_), Nat.le_trans h4 hg.size⟩
    obtain ⟨c, hc⟩ := own_typed h3 k e
    exact own_quiet hg hr k c 4 (0, 0) hc
  case assign =>
    intro ll x W K hK
    gi_wp2
    exact hK
  case stop =>
    rintro D c pre W _ _ h _
    exact h.elim
  case done =>
    rintro D ys Wd hD hys ⟨h1, h2, h3, h4⟩ hKD
    rw [hys] at h3
    obtain ⟨ad, A0, d0, A16, d16, hA3, hcc, _, _⟩ := bk_at HC.out n hn
    subst hA3
    obtain ⟨L, hL⟩ : ∃ L, (rd_T58 l03 n).f0.length = L := ⟨_, rfl⟩
    rw [hL] at hins hcc
    obtain ⟨e, he⟩ : ∃ e, backIn (bksOf l03) N o n = e := ⟨_, rfl⟩
    have hel : e.length = N := by rw [← he]; exact joinL_length H.out.shp _ (by simp)
    have h3' : OB Wd W.heap.size (.slice Af N cf) e := by rw [← he]; exact h3
    have hG : Hid (backG (bksOf l03) (chsOf cs) N o n = ((List.range (L + 2)).map fun s => downAt (chsOf cs) (n : Int) L e s).reverse) := Lib.hid (by
      rw [← backStates_all, backG, he, rd_T58_get hn, Option.map_some, Option.getD_some, hL])
    have HM0 : Hid (Marks W.heap.size Wd.heap.size Wd [markOf D]) := Lib.hid ((Marks.nil W.heap.size (w1.heap.size + 3) Wd).cons (by omega) (by omega) (Array.getElem?_eq_some_iff.1 hKD).1 hKD)
    have hcn := h2.cell 0 _ rfl
    have hcb3 := fun ob => pw_cell_below (below_alloc h1 ob) (H.out.bod.cell 3 _ rfl)
    have hci := fun ob => pw_cell_below (below_then H.out.low H.out.low.size (below_alloc h1 ob)) hcc
    have q0 : ((0 : Int) ≤ (n : Int)) = True := eq_true (by omega)
    have q1 : ((n : Int) < (l03.length : Int)) = True := eq_true (by omega)
    have H1 := Lib.hid h1
    have H2 := Lib.hid h2
    have H3 := Lib.hid h3'
    clear h1 h2 h3 h3' hb2 hga hbox3 hgb3 hT HX0 hKD hcc hys hL he hbW0 hto hsz1
    gi_wp2
    clear hcb3 hci hcn
    have hN2 := N2.one H1.out.size H3.out
    have hbd := below_alloc H1.out (.cells #[Value.slice Af N cf] 26)
    have HB4 := Lib.hid hbd
    have HX4 := Lib.hid (H2.out.below (below_alloc (Below.refl _ _) (.cells #[Value.slice Af N cf] 26)) H2.out.lt)
    have HO4 := Lib.hid (pw_own_below H3.out (below_alloc (Below.refl _ _) (.cells #[Value.slice Af N cf] 26)))
    have HN4 := Lib.hid hN2
    have HM4 : Hid (Marks W.heap.size (Wd.alloc (.cells #[Value.slice Af N cf] 26)).heap.size (Wd.alloc (.cells #[Value.slice Af N cf] 26)) [markOf D]) := Lib.hid ((HM0.out.grown (grown_of_below (below_alloc (Below.refl _ _) _) none) (fun _ e => by cases e)).upto (by simp))
    clear hN2 hbd H1 H2 H3 HM0
    generalize Wd.alloc (.cells #[Value.slice Af N cf] 26) = W4 at *
    gi_loopw [10, 11] (fun u10 u11 wr => ∃ (t : Nat) (A : Option Addr) (c : Nat), u11 = .int .i64 ((L : Int) - (t : Int)) ∧ t ≤ L + 1 ∧ Hid (N2 wr W.heap.size u10 ((List.range (t + 1)).map fun s => downAt (chsOf cs) (n : Int) L e s)) ∧ Hid (BoxIs wr w1.heap.size #[.slice A N c] 26) ∧ Hid (OB wr W.heap.size (.slice A N c) (downAt (chsOf cs) (n : Int) L e t)) ∧ Hid (Below W.heap.size W wr) ∧ Hid (Marks W.heap.size wr.heap.size wr [markOf D]) ∧ Hid (∀ q, u10.ownBlock = some q → q ≠ w1.heap.size)) (fun _ u11 _ => (intOf u11 + 1).toNat)
    case atStart => exact ⟨0, Af, cf, by simp, Nat.zero_le _, HN4, HX4, HO4, HB4, HM4, Lib.hid (fun q hq => by have h9 : Wd.heap.size = q := (by simpa [Value.ownBlock] using hq); omega)⟩
    case round =>
      clear HN4 HX4 HO4 HB4 HM4
      obtain ⟨t, A, c, rfl, ht, HNt, HXt, HOt, HBt, HMt, HNE⟩ := hrel
      by_cases hlt : t ≤ L
      · obtain ⟨kk, rfl⟩ : ∃ kk, L = kk + t := ⟨L - t, by omega⟩
        rw [show (((kk + t : Nat) : Int) - (t : Int)) = (kk : Int) by omega]
        have hlt' : (downAt (chsOf cs) (n : Int) (kk + t) e t).length = N := (downAt_length _ _ _ _ _).trans hel
        have HBK := Lib.hid (H.out.below HBt.out)
        have hstep := step_any (N := (N : Int)) (n : Int) (kk : Int) HBK.out.tab HBK.out.low hcl (by omega) (inW_small (by omega) (by omega)) (inW_small (by omega) (by omega)) HOt.out HBt.out.size
        have hdn : Hid (downAt (chsOf cs) (n : Int) (kk + t) e (t + 1) = stepL (chsOf cs) n kk (downAt (chsOf cs) (n : Int) (kk + t) e t)) := Lib.hid (by
          show stepL _ _ (((kk + t - t : Nat) : Int)) _ = _
          rw [Nat.add_sub_cancel])
        have hsl : (stepL (chsOf cs) n kk (downAt (chsOf cs) (n : Int) (kk + t) e t)).length = N := (stepL_length _ _ _ _).trans hlt'
        have hc0 := HBK.out.tb.cell 0 _ rfl
        have hc1 := HBK.out.tb.cell 1 _ rfl
        have hcn := HXt.out.cell 0 _ rfl
        have HST := Lib.hid hstep
        have k0 : (kk : Int) ≥ 0 := by omega
        clear hstep
        gi_wp2
        refine ⟨trivial, (callsIn_wide.2 HST.out).mono ?_⟩
        rintro e' w3 ⟨v3, rfl, ho3, hb3⟩
        obtain ⟨A3', d3, hv3⟩ := own_slice ho3
        rw [hsl] at hv3
        subst hv3
        have hX3 := HXt.out.below hb3 HXt.out.lt
        have hfz3 := frozen_box hX3 0
        have hcz3 := hX3.cell 0 _ rfl
        have HB3 := Lib.hid (HBt.out.trans (hb3.mono HBt.out.size))
        have HX4 := Lib.hid (BoxIs.set hX3 (.slice A3' N d3))
        have HO4 : Hid (OB (w3.setCell ⟨w1.heap.size, 0, none⟩ (.slice A3' N d3)) W.heap.size (.slice A3' N d3) (stepL (chsOf cs) n kk (downAt (chsOf cs) (n : Int) (kk + t) e t))) := Lib.hid (own_typed_move (T := 26) ho3 (by decide) (set_typed hX3 0 _))
        have HN4 := Lib.hid ((HNt.out.below hb3).setBox hX3 HNE.out (.slice A3' N d3))
        have HB4 := Lib.hid (HB3.out.grown (set_grown w3 w1.heap.size 0 (.slice A3' N d3)) HB3.out.size (fun q e => by injection e with e; have := HB1.out.size; omega))
        have HM4 : Hid (Marks W.heap.size (w3.setCell ⟨w1.heap.size, 0, none⟩ (.slice A3' N d3)).heap.size (w3.setCell ⟨w1.heap.size, 0, none⟩ (.slice A3' N d3)) [markOf D]) := Lib.hid (((HMt.out.grown (grown_of_below hb3 none) (fun _ e => by cases e)).upto hb3.size).grown (set_grown w3 w1.heap.size 0 _) (fun q e => .inr (by injection e with e; subst e; exact ⟨_, _, _, hX3⟩)) |>.upto (by rw [World.size_setCell]; exact Nat.le_refl _))
        clear HBK hc0 hc1 hcn HST ho3 hb3 HB3 hX3 HOt HNt HXt HBt HMt
        gi_wp2
        clear hfz3 hcz3
        generalize w3.setCell ⟨w1.heap.size, 0, none⟩ (.slice A3' N d3) = w4 at *
        obtain ⟨A3'', d3', hv, hd3, hC3⟩ := OB.reads HO4.out
        injection hv with e1 e2 e3
        subst e1 e3
        have hcl3 := clone_any w4 A3' d3 _ hC3 hd3 (by omega)
        rw [hsl] at hcl3
        have HCL3 := Lib.hid hcl3
        have hcn4 := HX4.out.cell 0 _ rfl
        clear e2 hC3 hcl3 hd3
        gi_wp2
        refine ⟨trivial, (callsIn_wide.2 HCL3.out).mono ?_⟩
        rintro e' w5 ⟨v5, rfl, ho5, hb5⟩
        obtain ⟨A5, d5, hv5⟩ := own_slice ho5
        rw [hsl] at hv5
        subst hv5
        obtain ⟨vs, hn1, hn2, hn3⟩ := HN4.out.below hb5
        have HB5 := Lib.hid (HB4.out.trans (hb5.mono HB4.out.size))
        have HX5 := Lib.hid (HX4.out.below hb5 HX4.out.lt)
        have HO5 := Lib.hid (pw_own_below HO4.out hb5)
        have HU5 := Lib.hid (own_weaken ho5 HB4.out.size)
        have HM5 : Hid (Marks W.heap.size w5.heap.size w5 [markOf D]) := Lib.hid ((HM4.out.grown (grown_of_below hb5 none) (fun _ e => by cases e)).upto hb5.size)
        have HN1 := Lib.hid hn1
        have HN2 := Lib.hid hn2
        have HN3 := Lib.hid hn3
        have hvl : vs.length ≤ 2000 := by rw [hn2]; simp; omega
        clear hn1 hn2 hn3 ho5 hb5 HO4 HB4 HX4 HM4 HN4 HCL3 hcn4
        gi_wp2_with (gi_at_builtin; refine append_in (W := w5) W.heap.size rfl (.tmp 59) (.tmp 62) 44 26 (.slice none 0 0) 24 rfl Try.underlying44 info26 rfl (by decide) u10 vs (.slice A5 N d5) rfl rfl rfl HN1.out HB5.out.size (by omega) ?_; intro v6 w6 ho6 hg6 hat6; have HO6 := Lib.hid ho6; have HG6 := Lib.hid hg6; have HAT6 := Lib.hid hat6; clear ho6 hg6 hat6)
        go_roundw
        case rel =>
          refine ⟨v6, _, _, _, _, _, _, _, _, _, _, _, _, _, _, _, ?_, rfl⟩
          have hne : ∀ q, u10.ownBlock = some q → q ≠ w1.heap.size := HNE.out
          have hty : ∀ {v' : Value} {xs' : List Bool}, OB w5 W.heap.size v' xs' → OB w6 W.heap.size v' xs' := fun {v' xs'} hq => own_move hq (fun q e => HG6.out.block q (own_lt hq q e) (fun e' => by
            obtain ⟨c, hc⟩ := own_typed hq q e
            obtain ⟨c', hc'⟩ := own_typed HN1.out q e'.symm
            rw [hc] at hc'
            injection hc' with hc'
            injection hc' with _ hc'
            cases hc'))
          refine ⟨t + 1, A3', d3, by (congr 1; omega), by omega, Lib.hid ?_, Lib.hid (HX5.out.grown HG6.out (fun e => hne _ e rfl)), Lib.hid ?_, Lib.hid (HB5.out.grown HG6.out HB5.out.size (fun q e => own_base HN1.out q e)), Lib.hid ((HM5.out.grown HG6.out (fun q e => .inr (by obtain ⟨c, hc⟩ := own_typed HN1.out q e; exact ⟨_, _, _, hc⟩))).upto HG6.out.size), Lib.hid (fun q e => ?_)⟩
          · rw [List.range_succ, List.map_append, List.map_singleton, hdn.out]
            exact N2.more HN1.out HN2.out HN3.out HU5.out HG6.out HO6.out
          · rw [hdn.out]
            exact hty HO5.out
          · rcases HAT6.out with h6 | ⟨b, h6, h7⟩
            · exact hne q (h6 ▸ e)
            · rw [h6] at e
              injection e with e
              have := HX5.out.lt
              omega
        case measure => first | (simp [intOf]; omega) | (simp [intOf]; done)
      · obtain rfl : t = L + 1 := by omega
        rw [show ((L : Int) - ((L + 1 : Nat) : Int)) = -1 by omega]
        have hrv := reverse_any HNt.out (by simp <;> omega)
        have HRV := Lib.hid hrv
        clear hrv
        gi_wp2
        refine ⟨trivial, (callsIn_wide.2 HRV.out).mono ?_⟩
        rintro e' w9 ⟨rfl, hr9, hg9, hst9⟩
        have HM9 : Hid (Marks W.heap.size w9.heap.size w9 [markOf D]) := Lib.hid ((HMt.out.grown hg9 (fun q e => .inr (by
          obtain ⟨vs, ho, _⟩ := HNt.out.own
          obtain ⟨c, hc⟩ := own_typed ho q e
          exact ⟨_, _, _, hc⟩))).upto hg9.size)
        have HB9 := Lib.hid (HBt.out.grown hg9 HBt.out.size (fun q e => by
          obtain ⟨vs, ho, _⟩ := HNt.out.own
          exact own_base ho q e))
        have HR9 := Lib.hid hr9
        clear hr9 hg9 hst9 HRV HNt HOt HXt HMt HBt
        gi_wp2
        refine Marks.leaves HM9.out u10 (fun W => results_tmp (t := 5) rfl _ _ _) (fun W' hs => ?_)
        rw [hG.out]
        exact ⟨_, rfl, HR9.out.move (fun q t c _ _ hq => hs.block q (.inr ⟨c, t, (0, 0), hq⟩)), hs.below HB9.out (Nat.le_refl _)⟩
  case body =>
    rintro ll pre ⟨y, hy⟩ Wc ⟨h1, h2, h3, h4⟩ hpl
    have hym := mem_succI hy
    obtain ⟨k, rfl⟩ := Int.eq_ofNat_of_zero_le hym.1
    have hkl : k < l03.length := by omega
    obtain ⟨g, c, Ah, ch, hc1, hc2, hCh⟩ := H.out.get hkl
    have hpos : 0 < (o k).length := by
      cases hx : o k with
      | nil => exact absurd hx (H.out.shp k).1
      | cons a x => simp
    have hyl := (H.out.shp k).head.1
    have hxl := joinL_length H.out.shp (pre.map (·.1)) (x := List.replicate N false) (by simp)
    have hsn := Lib.hid (joinL_snoc o (pre.map (·.1)) (k : Int) (List.replicate N false))
    rw [Int.toNat_natCast] at hsn
    have hca := pw_cell_below h1 (H.out.all.cell 0 _ rfl)
    have hc1' := pw_cell_below h1 hc1
    have hc2' := pw_cell_below h1 hc2
    have p0 : ((0 : Int) ≤ (k : Int)) = True := eq_true (by omega)
    have p1 : ((k : Int) < (l03.length : Int)) = True := eq_true (by omega)
    have p2 : ((0 : Int) < ((o k).length : Int)) = True := eq_true (by omega)
    have H1 := Lib.hid h1
    have H2 := Lib.hid h2
    have H3 := Lib.hid h3
    have HCH := Lib.hid hCh
    have hrow := Lib.hid (fun q e => own_typed h3 q e)
    have hrowb := Lib.hid (fun q e => own_base h3 q e)
    generalize hX : joinL o (pre.map (·.1)) (List.replicate N false) = X at *
    generalize hY : hd0 (o k) = Y at *
    clear h1 h2 h3 hc1 hc2 hCh hb2 hga hbox3 hgb3 hT hX hY
    gi_wp2
    gi_loopw [25] (fun u wr => ∃ t : Nat, u = .int .i64 t ∧ t ≤ N ∧ Hid (OB wr W.heap.size (.slice Af N cf) (mergeT false X Y t)) ∧ Hid (Below W.heap.size W wr) ∧ Hid (BoxIs wr w1.heap.size #[.slice Af N cf] 26) ∧ Hid (Wc.grownBy wr (Value.slice Af N cf).ownBlock)) (fun u _ => N - (intOf u).toNat)
    case atStart => exact ⟨0, rfl, Nat.zero_le _, Lib.hid (by rw [mergeT_zero]; exact H3.out), H1, H2, Lib.hid ⟨rfl, rfl, rfl, Nat.le_refl _, fun _ _ _ => rfl⟩⟩
    case round =>
      clear hca hc1' hc2' p0 p1 p2
      obtain ⟨t, rfl, ht, HO5, HB5, HX5, HG5⟩ := hrel
      by_cases hlt2 : t < N
      · obtain ⟨xa, hxa⟩ : ∃ b, X[t]? = some b := ⟨_, List.getElem?_eq_getElem (by omega)⟩
        obtain ⟨ya, hya⟩ : ∃ b, Y[t]? = some b := ⟨_, List.getElem?_eq_getElem (by omega)⟩
        have hml := mergeT_length (e := false) (hxl.trans hyl.symm) t (by omega)
        obtain ⟨ay, hay, hyc⟩ := Kd.at_bool (Kd.C_below HCH.out HB5.out) (t : Int) (by omega) (by omega)
        rw [show rdOf false Y (t : Int) = ya by simp [rdOf, List.getD_eq_getElem?_getD, hya], Int.toNat_natCast] at hyc
        subst hay
        have hown := HO5.out
        unfold OB at hown
        rw [hml, hxl] at hown
        obtain ⟨gn, cn, hAn, hgn1, hgn2⟩ := hown.form (by omega)
        injection hAn with e1 e2 e3
        subst e1 e3
        clear e2
        have hnc := hown.cells (g := gn) rfl t (.bool xa) (by simp [encs, mergeT_at (hxl.trans hyl.symm) hxa])
        rw [add_plain] at hnc
        have hnf : wr.frozen? ⟨gn, t, none⟩ = false := by
          obtain ⟨c', hc'⟩ := own_typed hown gn rfl
          simp [World.frozen?, hc']
        have hcn := HX5.out.cell 0 _ rfl
        have hgw1 : gn < w1.heap.size := hAf gn rfl
        have hst := fun b => (hown.stored t (.bool b)).1
        have hstep := Lib.hid (mergeT_step (e := false) (hxl.trans hyl.symm) hxa hya)
        have r0 : ((0 : Int) ≤ (t : Int)) = True := eq_true (by omega)
        have r1 : ((t : Int) < (N : Int)) = True := eq_true (by omega)
        have fin : ∀ b, b = mergeB false xa ya → OB (wr.setCell ⟨gn, t, none⟩ (.bool b)) W.heap.size (.slice (some ⟨gn, 0, none⟩) N cf) (mergeT false X Y (t + 1)) ∧ Below W.heap.size W (wr.setCell ⟨gn, t, none⟩ (.bool b)) ∧ BoxIs (wr.setCell ⟨gn, t, none⟩ (.bool b)) w1.heap.size #[.slice (some ⟨gn, 0, none⟩) N cf] 26 ∧ Wc.grownBy (wr.setCell ⟨gn, t, none⟩ (.bool b)) (some gn) := fun b e => by
          refine ⟨?_, HB5.out.grown (set_grown wr gn t (.bool b)) HB5.out.size (fun k e => by injection e with e; omega), HX5.out.grown (set_grown wr gn t _) (fun e => by injection e with e; omega), HG5.out.trans (set_grown wr gn t _)⟩
          rw [← hstep.out, ← e]
          unfold OB
          rw [List.length_set, hml, hxl]
          have := hst b
          rwa [show (encs Value.bool (mergeT false X Y t)).set t (.bool b) = encs Value.bool ((mergeT false X Y t).set t b) by simp [encs, List.map_set]] at this
        have FIN := Lib.hid fin
        have HXA := Lib.hid hxa
        have HYA := Lib.hid hya
        clear hst hown hxa hya fin
        cases xa with
        | true =>
          gi_wp2
          rename_i K hK
          refine round_start (hd := by kernel_rfl) (n := 11) (S := fun w' => w'.cell? ⟨w1.heap.size, 0, none⟩ = some (.slice (some ⟨gn, 0, none⟩) N cf) ∧ w'.cell? ⟨gn, t, none⟩ = some (.bool true)) (ds := [10]) #[false, false, false, false, false, false, false, false, false, false, false] (by kernel_rfl) rfl rfl ⟨pw_cell_below (below_drew (Below.refl _ _)) hcn, pw_cell_below (below_drew (Below.refl _ _)) hnc⟩ (fun hHeld => ?_)
          refine pure_ (i := 1) (N := some 31) (v := ?_) (a' := ?_) #[false, true, false, false, false, false, false, false, false, false, false] rfl rfl (by kernel_rfl) (fun _ _ _ h => by cases h.1) (Or.inl ⟨by rfl, ?_⟩) ?_ ?_
          rotate_left
          · intro w'
            go_simp
            with_reducible rfl
          rotate_left
          · simp only [Act.put, List.setIfInBounds_toArray, List.set_cons_zero, List.set_cons_succ, i64_w, i32_w]
            rfl
          refine pure_ (i := 3) (N := some 33) (v := ?_) (a' := ?_) #[false, true, false, true, false, false, false, false, false, false, false] rfl rfl (by kernel_rfl) (fun _ _ _ h => by cases h.1) (Or.inl ⟨by rfl, ?_⟩) ?_ ?_
          rotate_left
          · intro w'
            go_simp
            with_reducible rfl
          rotate_left
          · simp only [Act.put, List.setIfInBounds_toArray, List.set_cons_zero, List.set_cons_succ, i64_w, i32_w]
            rfl
          refine take_ (i := 0) (N := some 30) (v := ?_) (a' := ?_) #[true, true, false, true, false, false, false, false, false, false, false] rfl rfl (by kernel_rfl) (fun _ _ _ h => by cases h.1) (Or.inl ⟨by rfl, ?_⟩) hHeld ?_ ?_
          rotate_left
          · rintro w' ⟨s0, s1⟩
            go_simp
            with_reducible rfl
          rotate_left
          · simp only [Act.put, List.setIfInBounds_toArray, List.set_cons_zero, List.set_cons_succ, i64_w, i32_w]
            rfl
          refine take_ (i := 2) (N := some 32) (v := ?_) (a' := ?_) #[true, true, true, true, false, false, false, false, false, false, false] rfl rfl (by kernel_rfl) (fun _ _ _ h => by cases h.1) (Or.inl ⟨by rfl, ?_⟩) hHeld ?_ ?_
          rotate_left
          · rintro w' ⟨s0, s1⟩
            go_simp
            with_reducible rfl
          rotate_left
          · simp only [Act.put, List.setIfInBounds_toArray, List.set_cons_zero, List.set_cons_succ, i64_w, i32_w]
            rfl
          refine pure_ (i := 4) (N := some 34) (v := ?_) (a' := ?_) #[true, true, true, true, true, false, false, false, false, false, false] rfl rfl (by kernel_rfl) (fun _ _ _ h => by cases h.1) (Or.inl ⟨by rfl, ?_⟩) ?_ ?_
          rotate_left
          · intro w'
            go_simp
            with_reducible rfl
          rotate_left
          · simp only [Act.put, List.setIfInBounds_toArray, List.set_cons_zero, List.set_cons_succ, i64_w, i32_w]
            rfl
          refine take_ (i := 5) (N := some 35) (v := ?_) (a' := ?_) #[true, true, true, true, true, true, false, false, false, false, false] rfl rfl (by kernel_rfl) (fun _ _ _ h => by cases h.1) (Or.inl ⟨by rfl, ?_⟩) hHeld ?_ ?_
          rotate_left
          · rintro w' ⟨s0, s1⟩
            go_simp
            with_reducible rfl
          rotate_left
          · simp only [Act.put, List.setIfInBounds_toArray, List.set_cons_zero, List.set_cons_succ, i64_w, i32_w]
            rfl
          refine pure_ (i := 6) (N := some 36) (v := ?_) (a' := ?_) #[true, true, true, true, true, true, true, false, false, false, false] rfl rfl (by kernel_rfl) (fun _ _ _ h => by cases h.1) (Or.inl ⟨by rfl, ?_⟩) ?_ ?_
          rotate_left
          · intro w'
            go_simp
            with_reducible rfl
          rotate_left
          · simp only [Act.put, List.setIfInBounds_toArray, List.set_cons_zero, List.set_cons_succ, i64_w, i32_w]
            rfl
          refine pure_ (i := 7) (N := some 37) (v := undef) (a' := ?_) #[true, true, true, true, true, true, true, true, false, false, false] rfl rfl (by kernel_rfl) (fun _ _ _ h => by cases h.1) (Or.inr ⟨by rfl, rfl⟩) ?_ ?_
          rotate_left
          · simp only [Act.put, List.setIfInBounds_toArray, List.set_cons_zero, List.set_cons_succ, i64_w, i32_w]
            rfl
          refine pure_ (i := 8) (N := some 38) (v := ?_) (a' := ?_) #[true, true, true, true, true, true, true, true, true, false, false] rfl rfl (by kernel_rfl) (fun _ _ _ h => by cases h.1) (Or.inl ⟨by rfl, ?_⟩) ?_ ?_
          rotate_left
          · intro w'
            go_simp
            with_reducible rfl
          rotate_left
          · simp only [Act.put, List.setIfInBounds_toArray, List.set_cons_zero, List.set_cons_succ, i64_w, i32_w]
            rfl
          refine pure_ (i := 9) (N := some 39) (v := ?_) (a' := ?_) #[true, true, true, true, true, true, true, true, true, true, false] rfl rfl (by kernel_rfl) (fun _ _ _ h => by cases h.1) (Or.inl ⟨by rfl, ?_⟩) ?_ ?_
          rotate_left
          · intro w'
            go_simp
            with_reducible rfl
          rotate_left
          · simp only [Act.put, List.setIfInBounds_toArray, List.set_cons_zero, List.set_cons_succ, i64_w, i32_w]
            rfl
          refine last_ (i := 10) (N := none) #[true, true, true, true, true, true, true, true, true, true, true] rfl rfl (by kernel_rfl) (by decide) (fun K hK => ?_)
          have hfz : (wr.drew).frozen? ⟨gn, t, none⟩ = false := hnf
          have hcz := pw_cell_below (below_drew (Below.refl wr.heap.size wr)) hnc
          refine skip_ (w1 := ?_) (by rfl) rfl ?_ ?_
          rotate_left
          · go_simp
            rfl
          refine hK.out _ _ ?_
          clear hK K
          refine done_ (by kernel_rfl) ?_
          refine ⟨rfl, hK _ _ ?_⟩
          clear hK K hHeld
          have hfin := FIN.out (true) (by simp [mergeB])
          have HD1 := Lib.hid hfin
          clear hfin hfz hcz
          gi_wp2
          go_roundw
          case rel => exact ⟨t + 1, by go_num, by omega, Lib.hid HD1.out.1, Lib.hid (below_drew HD1.out.2.1), Lib.hid HD1.out.2.2.1, Lib.hid (grown_drew HD1.out.2.2.2)⟩
          case measure => simp [intOf]; omega
        | false =>
          gi_wp2
          rename_i K hK
          refine round_start (hd := by kernel_rfl) (n := 11) (S := fun w' => w'.cell? ⟨w1.heap.size, 0, none⟩ = some (.slice (some ⟨gn, 0, none⟩) N cf) ∧ w'.cell? ⟨gn, t, none⟩ = some (.bool false)) (ds := [10]) #[false, false, false, false, false, false, false, false, false, false, false] (by kernel_rfl) rfl rfl ⟨pw_cell_below (below_drew (Below.refl _ _)) hcn, pw_cell_below (below_drew (Below.refl _ _)) hnc⟩ (fun hHeld => ?_)
          refine pure_ (i := 1) (N := some 31) (v := ?_) (a' := ?_) #[false, true, false, false, false, false, false, false, false, false, false] rfl rfl (by kernel_rfl) (fun _ _ _ h => by cases h.1) (Or.inl ⟨by rfl, ?_⟩) ?_ ?_
          rotate_left
          · intro w'
            go_simp
            with_reducible rfl
          rotate_left
          · simp only [Act.put, List.setIfInBounds_toArray, List.set_cons_zero, List.set_cons_succ, i64_w, i32_w]
            rfl
          refine pure_ (i := 3) (N := some 33) (v := ?_) (a' := ?_) #[false, true, false, true, false, false, false, false, false, false, false] rfl rfl (by kernel_rfl) (fun _ _ _ h => by cases h.1) (Or.inl ⟨by rfl, ?_⟩) ?_ ?_
          rotate_left
          · intro w'
            go_simp
            with_reducible rfl
          rotate_left
          · simp only [Act.put, List.setIfInBounds_toArray, List.set_cons_zero, List.set_cons_succ, i64_w, i32_w]
            rfl
          refine take_ (i := 0) (N := some 30) (v := ?_) (a' := ?_) #[true, true, false, true, false, false, false, false, false, false, false] rfl rfl (by kernel_rfl) (fun _ _ _ h => by cases h.1) (Or.inl ⟨by rfl, ?_⟩) hHeld ?_ ?_
          rotate_left
          · rintro w' ⟨s0, s1⟩
            go_simp
            with_reducible rfl
          rotate_left
          · simp only [Act.put, List.setIfInBounds_toArray, List.set_cons_zero, List.set_cons_succ, i64_w, i32_w]
            rfl
          refine take_ (i := 2) (N := some 32) (v := ?_) (a' := ?_) #[true, true, true, true, false, false, false, false, false, false, false] rfl rfl (by kernel_rfl) (fun _ _ _ h => by cases h.1) (Or.inl ⟨by rfl, ?_⟩) hHeld ?_ ?_
          rotate_left
          · rintro w' ⟨s0, s1⟩
            go_simp
            with_reducible rfl
          rotate_left
          · simp only [Act.put, List.setIfInBounds_toArray, List.set_cons_zero, List.set_cons_succ, i64_w, i32_w]
            rfl
          refine pure_ (i := 4) (N := some 34) (v := ?_) (a' := ?_) #[true, true, true, true, true, false, false, false, false, false, false] rfl rfl (by kernel_rfl) (fun _ _ _ h => by cases h.1) (Or.inl ⟨by rfl, ?_⟩) ?_ ?_
          rotate_left
          · intro w'
            go_simp
            with_reducible rfl
          rotate_left
          · simp only [Act.put, List.setIfInBounds_toArray, List.set_cons_zero, List.set_cons_succ, i64_w, i32_w]
            rfl
          refine take_ (i := 5) (N := some 35) (v := ?_) (a' := ?_) #[true, true, true, true, true, true, false, false, false, false, false] rfl rfl (by kernel_rfl) (fun _ _ _ h => by cases h.1) (Or.inl ⟨by rfl, ?_⟩) hHeld ?_ ?_
          rotate_left
          · rintro w' ⟨s0, s1⟩
            go_simp
            with_reducible rfl
          rotate_left
          · simp only [Act.put, List.setIfInBounds_toArray, List.set_cons_zero, List.set_cons_succ, i64_w, i32_w]
            rfl
          refine pure_ (i := 6) (N := some 36) (v := ?_) (a' := ?_) #[true, true, true, true, true, true, true, false, false, false, false] rfl rfl (by kernel_rfl) (fun _ _ _ h => by cases h.1) (Or.inl ⟨by rfl, ?_⟩) ?_ ?_
          rotate_left
          · intro w'
            go_simp
            with_reducible rfl
          rotate_left
          · simp only [Act.put, List.setIfInBounds_toArray, List.set_cons_zero, List.set_cons_succ, i64_w, i32_w]
            rfl
          refine pure_ (i := 7) (N := some 37) (v := ?_) (a' := ?_) #[true, true, true, true, true, true, true, true, false, false, false] rfl rfl (by kernel_rfl) (fun _ _ _ h => by cases h.1) (Or.inl ⟨by rfl, ?_⟩) ?_ ?_
          rotate_left
          · intro w'
            go_simp
            with_reducible rfl
          rotate_left
          · simp only [Act.put, List.setIfInBounds_toArray, List.set_cons_zero, List.set_cons_succ, i64_w, i32_w]
            rfl
          refine pure_ (i := 8) (N := some 38) (v := ?_) (a' := ?_) #[true, true, true, true, true, true, true, true, true, false, false] rfl rfl (by kernel_rfl) (fun _ _ _ h => by cases h.1) (Or.inl ⟨by rfl, ?_⟩) ?_ ?_
          rotate_left
          · intro w'
            go_simp
            with_reducible rfl
          rotate_left
          · simp only [Act.put, List.setIfInBounds_toArray, List.set_cons_zero, List.set_cons_succ, i64_w, i32_w]
            rfl
          refine pure_ (i := 9) (N := some 39) (v := ?_) (a' := ?_) #[true, true, true, true, true, true, true, true, true, true, false] rfl rfl (by kernel_rfl) (fun _ _ _ h => by cases h.1) (Or.inl ⟨by rfl, ?_⟩) ?_ ?_
          rotate_left
          · intro w'
            go_simp
            with_reducible rfl
          rotate_left
          · simp only [Act.put, List.setIfInBounds_toArray, List.set_cons_zero, List.set_cons_succ, i64_w, i32_w]
            rfl
          refine last_ (i := 10) (N := none) #[true, true, true, true, true, true, true, true, true, true, true] rfl rfl (by kernel_rfl) (by decide) (fun K hK => ?_)
          have hfz : (wr.drew).frozen? ⟨gn, t, none⟩ = false := hnf
          have hcz := pw_cell_below (below_drew (Below.refl wr.heap.size wr)) hnc
          refine skip_ (w1 := ?_) (by rfl) rfl ?_ ?_
          rotate_left
          · go_simp
            rfl
          refine hK.out _ _ ?_
          clear hK K
          refine done_ (by kernel_rfl) ?_
          refine ⟨rfl, hK _ _ ?_⟩
          clear hK K hHeld
          have hfin := FIN.out (ya) (by simp [mergeB])
          have HD1 := Lib.hid hfin
          clear hfin hfz hcz
          gi_wp2
          go_roundw
          case rel => exact ⟨t + 1, by go_num, by omega, Lib.hid HD1.out.1, Lib.hid (below_drew HD1.out.2.1), Lib.hid HD1.out.2.2.1, Lib.hid (grown_drew HD1.out.2.2.2)⟩
          case measure => simp [intOf]; omega
      · obtain rfl : N = t := by omega
        clear hlt2
        gi_wp2
        have hkeep : ∀ q, (Value.slice Af N cf).ownBlock = some q → ∃ c t z, Wc.heap[q]? = some (.cells c t z) := fun q e => by
          obtain ⟨c, hc⟩ := hrow.out q e
          exact ⟨c, 4, (0, 0), hc⟩
        have hend := HO5.out
        have hall := mergeT_all (e := false) (hxl.trans hyl.symm)
        rw [hxl] at hall
        rw [hall] at hend
        refine ⟨keeps_grown HG5.out hkeep, ⟨(Below.refl _ _).grown HG5.out H1.out.size (fun q e => hrowb.out q e), HG5.out.block _ (by omega) (fun e => by have := hAf _ e.symm; omega), HG5.out.block _ (by omega) (fun e => by have := hAf _ e.symm; omega)⟩, HB5.out, HX5.out, ?_, Nat.le_trans h4 HG5.out.size⟩
        rw [List.map_append, List.map_singleton, hsn.out]
        exact hend
end Go.Proofs.Ythgnbeeobhfeaaa.T
end

section
/- The plain way of what is needed. -/
namespace Go.Proofs.Ythgnbeeobhfeaaa.T
open Go.RowKit Go.Shelf Go.Proofs.YthgnbeeobhfeaaaW.PrintWords Go.Proofs.YthgnbeeobhfeaaaW.PrintLast

def insN (bs : List Bk) (i : Nat) : Nat := (bs[i]?.map Bk.ins).getD 0
theorem hd0_back (cs : List Ch) (b : Int) (r : Nat) (e : List Bool) : hd0 (backStates cs b r e) = backRun cs b r e := by
  have := backStates_head (cs := cs) (b := b) r e
  unfold hd0
  rw [List.headD_eq_head?_getD, List.head?_eq_getElem?, this]
  rfl
theorem backStates_rows (cs : List Ch) (b : Int) : ∀ (r : Nat) (e : List Bool), ∀ x ∈ backStates cs b r e, x.length = e.length
  | 0, e, x, h => by
    rw [backStates, List.mem_singleton] at h
    rw [h]
  | r + 1, e, x, h => by
    rw [backStates] at h
    rcases List.mem_append.1 h with h | h
    · rw [backStates_rows cs b r _ x h, stepL_length]
    · rw [List.mem_singleton] at h
      rw [h]
theorem backStates_last (cs : List Ch) (b : Int) (r : Nat) (e : List Bool) : (backStates cs b r e).getLastD [] = e := by
  cases r with
  | zero => rfl
  | succ r => rw [backStates]; simp
theorem backStates_shp (cs : List Ch) (b : Int) (r : Nat) (e : List Bool) : Shp e.length (backStates cs b r e) :=
  ⟨fun h => by have := backStates_length (cs := cs) (b := b) r e; rw [h] at this; simp at this, backStates_rows cs b r e⟩
theorem join_true {N : Nat} {o : Nat → List (List Bool)} (ho : ∀ i, Shp N (o i)) {j : Nat} (hj : j < N) : ∀ (l : List Int) {x : List Bool}, x.length = N →
    ((joinL o l x)[j]? = some true ↔ x[j]? = some true ∨ ∃ k ∈ l, (hd0 (o k.toNat))[j]? = some true)
  | [], x, _ => by simp [joinL]
  | k :: l, x, hx => by
    have hy := (ho k.toNat).head.1
    have hm : (mergeL false x (hd0 (o k.toNat))).length = N := by rw [mergeL_length (by rw [hx, hy]), hx]
    have ih := join_true ho hj l hm
    obtain ⟨a, ha⟩ : ∃ a, x[j]? = some a := ⟨_, List.getElem?_eq_getElem (by omega)⟩
    obtain ⟨b, hb⟩ : ∃ b, (hd0 (o k.toNat))[j]? = some b := ⟨_, List.getElem?_eq_getElem (by omega)⟩
    have hab : (mergeL false x (hd0 (o k.toNat)))[j]? = some (a || b) := by simp [mergeL, List.getElem?_zipWith, ha, hb, mergeB]
    show (joinL o l (mergeL false x (hd0 (o k.toNat))))[j]? = some true ↔ _
    rw [ih, hab, ha]
    simp only [Option.some.injEq, Bool.or_eq_true, List.mem_cons, exists_eq_or_imp, hb, or_assoc]
section
variable {bs : List Bk} {cs : List Ch} {N : Nat} {o o' : Nat → List (List Bool)} {l : List Int}
theorem backIn_length (ho : ∀ i, Shp N (o i)) (n : Nat) : (backIn bs N o n).length = N := joinL_length ho _ (by simp)
theorem backIn_true (ho : ∀ i, Shp N (o i)) (n : Nat) {j : Nat} (hj : j < N) : (backIn bs N o n)[j]? = some true ↔ ∃ k : Nat, edge bs n k = true ∧ (hd0 (o k))[j]? = some true := by
  rw [backIn, join_true ho hj _ (by simp)]
  constructor
  · rintro (h | ⟨k, hk, h⟩)
    · simp [hj] at h
    · have := mem_succI hk
      obtain ⟨q, rfl⟩ := Int.eq_ofNat_of_zero_le this.1
      rw [Int.toNat_natCast] at h
      exact ⟨q, edge_iff.2 hk, h⟩
  · rintro ⟨k, hk, h⟩
    exact .inr ⟨(k : Int), edge_iff.1 hk, by rw [Int.toNat_natCast]; exact h⟩
theorem backIn_mono (ho : ∀ i, Shp N (o i)) (ho' : ∀ i, Shp N (o' i)) (h : ∀ (i j : Nat), (hd0 (o i))[j]? = some true → (hd0 (o' i))[j]? = some true) (n : Nat) (j : Nat) (hj : (backIn bs N o n)[j]? = some true) : (backIn bs N o' n)[j]? = some true := by
  have hlt : j < N := by have := (List.getElem?_eq_some_iff.1 hj).1; rwa [backIn_length ho] at this
  obtain ⟨k, h1, h2⟩ := (backIn_true ho n hlt).1 hj
  exact (backIn_true ho' n hlt).2 ⟨k, h1, h k j h2⟩
theorem backG_shp (ho : ∀ i, Shp N (o i)) (n : Nat) : Shp N (backG bs cs N o n) := by
  have := backStates_shp cs n (insN bs n + 1) (backIn bs N o n)
  rwa [backIn_length ho] at this
theorem backG_head (n : Nat) : hd0 (backG bs cs N o n) = backRun cs n (insN bs n + 1) (backIn bs N o n) := hd0_back _ _ _ _
theorem backG_get (n : Nat) {j : Nat} {x : Bool} (hx : (backIn bs N o n)[j]? = some x) : (hd0 (backG bs cs N o n))[j]? = some (blockU bs cs j n x) := by
  rw [backG_head]
  exact backRun_get _ hx
end
/-- What is known on the way. -/
structure BPhi (bs : List Bk) (cs : List Ch) (N : Nat) (l : List Int) (o : Nat → List (List Bool)) : Prop where
  rng : ∀ x ∈ l, ∃ n : Nat, x = n ∧ n < bs.length
  form : ∀ i, o i = [List.replicate N false] ∨ ∃ e : List Bool, e.length = N ∧ o i = backStates cs i (insN bs i + 1) e ∧ ∀ j : Nat, e[j]? = some true → (backIn bs N o i)[j]? = some true
  snd : ∀ i j, (hd0 (o i))[j]? = some true → blockU bs cs j i (endV bs cs j i) = true
  work : ∀ i : Nat, i < bs.length → (i : Int) ∉ l → backG bs cs N o i = o i
/-- How much a block's rows may still grow. -/
def potR (N : Nat) (x : List (List Bool)) : Nat := if x.length ≤ 1 then N + 1 else (x.getLastD []).count false
def potB (N m : Nat) (o : Nat → List (List Bool)) : Nat := ((List.range m).map fun i => potR N (o i)).sum
section
variable {bs : List Bk} {cs : List Ch} {N : Nat} {o : Nat → List (List Bool)} {l : List Int}
theorem BPhi.shp (h : BPhi bs cs N l o) (i : Nat) : Shp N (o i) := by
  rcases h.form i with h1 | ⟨e, h1, h2, _⟩
  · rw [h1]
    exact ⟨by simp, fun r hr => by rw [List.mem_singleton] at hr; rw [hr]; simp⟩
  · rw [h2, ← h1]
    exact backStates_shp _ _ _ _
theorem BPhi.begin (h : ∀ x ∈ l, ∃ n : Nat, x = n ∧ n < bs.length) (hall : ∀ i : Nat, i < bs.length → (i : Int) ∈ l) : BPhi bs cs N l (fun _ => [List.replicate N false]) := by
  refine ⟨h, fun _ => .inl rfl, fun i j hj => ?_, fun i hi hn => absurd (hall i hi) hn⟩
  simp only [hd0, List.headD_cons, List.getElem?_replicate] at hj
  split at hj <;> cases hj
theorem BPhi.equal {n : Nat} (h : BPhi bs cs N ((n : Int) :: l) o) (he : backG bs cs N o n = o n) : BPhi bs cs N l o := by
  refine ⟨fun x hx => h.rng x (List.mem_cons_of_mem _ hx), h.form, h.snd, fun i hi hn => ?_⟩
  by_cases e1 : i = n
  · rw [e1]; exact he
  · exact h.work i hi (fun hm => by
      rcases List.mem_cons.1 hm with hm | hm
      · exact e1 (by omega)
      · exact hn hm)
/-- A look leaves no less. -/
theorem BPhi.grow (h : BPhi bs cs N l o) (n j : Nat) (hj : (hd0 (o n))[j]? = some true) : (hd0 (backG bs cs N o n))[j]? = some true := by
  rcases h.form n with h1 | ⟨e, h1, h2, h3⟩
  · rw [h1] at hj
    simp only [hd0, List.headD_cons, List.getElem?_replicate] at hj
    split at hj <;> cases hj
  · rw [h2, hd0_back] at hj
    have hlt : j < N := by have := (List.getElem?_eq_some_iff.1 hj).1; rwa [backRun_length, h1] at this
    obtain ⟨a, ha⟩ : ∃ a, e[j]? = some a := ⟨_, List.getElem?_eq_getElem (by omega)⟩
    obtain ⟨b, hb⟩ : ∃ b, (backIn bs N o n)[j]? = some b := ⟨_, List.getElem?_eq_getElem (by rw [backIn_length h.shp]; exact hlt)⟩
    rw [backRun_get _ ha, Option.some.injEq] at hj
    rw [backG_get n hb, Option.some.injEq]
    refine backB_mono _ (fun q => ?_) hj
    subst q
    have := h3 j ha
    rw [hb] at this
    exact Option.some.inj this
theorem BPhi.change {n : Nat} (h : BPhi bs cs N ((n : Int) :: l) o) : BPhi bs cs N (putAll l (predsL bs n)) (upd o n (backG bs cs N o n)) := by
  obtain ⟨n', hn', hnm⟩ := h.rng n List.mem_cons_self
  obtain rfl : n = n' := by omega
  have hsh := h.shp
  have hsh' : ∀ i, Shp N (upd o n (backG bs cs N o n) i) := fun i => by
    unfold upd
    split
    · exact backG_shp hsh n
    · exact hsh i
  have hup : ∀ (i j : Nat), (hd0 (o i))[j]? = some true → (hd0 (upd o n (backG bs cs N o n) i))[j]? = some true := fun i j hj => by
    unfold upd
    split
    · rename_i e1
      rw [e1] at hj
      exact h.grow n j hj
    · exact hj
  refine ⟨fun x hx => ?_, fun i => ?_, fun i j hj => ?_, fun i hi hn => ?_⟩
  · rcases putAll_mem.1 hx with hx | hx
    · exact h.rng x (List.mem_cons_of_mem _ hx)
    · obtain ⟨q, rfl, hq⟩ := mem_predsL.1 hx
      exact ⟨q, rfl, (edge_lt hq).2⟩
  · by_cases e1 : i = n
    · subst e1
      refine .inr ⟨backIn bs N o i, backIn_length hsh i, by simp [upd, backG, insN], fun j hj => backIn_mono hsh hsh' hup i j hj⟩
    · have hu : upd o n (backG bs cs N o n) i = o i := by simp [upd, e1]
      rw [hu]
      rcases h.form i with h1 | ⟨e, h1, h2, h3⟩
      · exact .inl h1
      · exact .inr ⟨e, h1, h2, fun j hj => backIn_mono hsh hsh' hup i j (h3 j hj)⟩
  · by_cases e1 : i = n
    · subst e1
      have hu : upd o i (backG bs cs N o i) i = backG bs cs N o i := by simp [upd]
      rw [hu] at hj
      have hlt : j < N := by have := (List.getElem?_eq_some_iff.1 hj).1; rwa [(backG_shp hsh i).head.1] at this
      obtain ⟨b, hb⟩ : ∃ b, (backIn bs N o i)[j]? = some b := ⟨_, List.getElem?_eq_getElem (by rw [backIn_length hsh]; exact hlt)⟩
      rw [backG_get i hb, Option.some.injEq] at hj
      refine backB_mono _ (fun q => ?_) hj
      subst q
      obtain ⟨k, h1, h2⟩ := (backIn_true hsh i hlt).1 hb
      have hk := h.snd k j h2
      have hm : Mv false (fun _ => False) (blockU bs cs j) (fun p m => edge bs m p = true) i := Mv.edge (p := k) h1 (by
        show blockU bs cs j k (endV bs cs j k) ≠ false
        rw [hk]; decide)
      have := mvV_ne.2 hm
      unfold endV
      simpa using this
    · have hu : upd o n (backG bs cs N o n) i = o i := by simp [upd, e1]
      rw [hu] at hj
      exact h.snd i j hj
  · have hed : edge bs i n = false := by
      cases hq : edge bs i n with
      | false => rfl
      | true => exact absurd (putAll_mem.2 (.inr (mem_predsL.2 ⟨i, rfl, hq⟩))) hn
    have hin : backIn bs N (upd o n (backG bs cs N o n)) i = backIn bs N o i := by
      unfold backIn joinL
      have key : ∀ (ks : List Int), (∀ k ∈ ks, k.toNat ≠ n) → ∀ a, List.foldl (fun s (k : Int) => mergeL false s (hd0 (upd o n (backG bs cs N o n) k.toNat))) a ks = List.foldl (fun s (k : Int) => mergeL false s (hd0 (o k.toNat))) a ks := by
        intro ks
        induction ks with
        | nil => intro _ a; rfl
        | cons k ks ih =>
          intro hk a
          have : upd o n (backG bs cs N o n) k.toNat = o k.toNat := by simp [upd, hk k List.mem_cons_self]
          rw [List.foldl_cons, List.foldl_cons, ih (fun q hq => hk q (List.mem_cons_of_mem _ hq)), this]
      refine key _ (fun k hk e1 => ?_) _
      have := mem_succI hk
      obtain ⟨q, rfl⟩ := Int.eq_ofNat_of_zero_le this.1
      rw [Int.toNat_natCast] at e1
      rw [e1] at hk
      rw [edge_iff.2 hk] at hed
      cases hed
    have hg : backG bs cs N (upd o n (backG bs cs N o n)) i = backG bs cs N o i := by
      show backStates cs i (insN bs i + 1) (backIn bs N (upd o n (backG bs cs N o n)) i) = backStates cs i (insN bs i + 1) (backIn bs N o i)
      rw [hin]
    rw [hg]
    by_cases e1 : i = n
    · subst e1
      simp [upd]
    · have hu : upd o n (backG bs cs N o n) i = o i := by simp [upd, e1]
      rw [hu]
      refine h.work i hi (fun hm => ?_)
      rcases List.mem_cons.1 hm with hm | hm
      · exact e1 (by omega)
      · exact hn (putAll_mem.2 (.inl hm))
/-- What is left when nothing waits. -/
theorem BPhi.done (h : BPhi bs cs N [] o) {n : Nat} (hn : n < bs.length) : o n = backStates cs n (insN bs n + 1) (endL bs N cs n) := by
  have hset : ∀ i, i < bs.length → backG bs cs N o i = o i := fun i hi => h.work i hi (by simp)
  rw [← hset n hn, backG]
  congr 1
  have hsh := h.shp
  refine list_same (e := false) (by rw [backIn_length hsh]; simp [endL]) (fun j hj => ?_)
  rw [backIn_length hsh] at hj
  have hin : (endL bs N cs n)[j]? = some (endV bs cs j n) := by simp [endL, hj]
  rw [hin]
  have key : ∀ i, (backIn bs N o i)[j]? ≠ some false ↔ Mv false (fun _ => False) (blockU bs cs j) (fun p m => edge bs m p = true) i := by
    intro i
    have hlt : j < (backIn bs N o i).length := by rw [backIn_length hsh]; exact hj
    have htf : (backIn bs N o i)[j]? ≠ some false ↔ (backIn bs N o i)[j]? = some true := by
      rw [List.getElem?_eq_getElem hlt]
      cases (backIn bs N o i)[j] <;> simp
    rw [htf]
    constructor
    · intro hi
      obtain ⟨k, h1, h2⟩ := (backIn_true hsh i hj).1 hi
      exact Mv.edge (p := k) h1 (by
        show blockU bs cs j k (endV bs cs j k) ≠ false
        rw [h.snd k j h2]; decide)
    · intro hi
      have := Mv.least (v := fun i => ((backIn bs N o i)[j]?).getD false) (blockU_mono bs cs j) (fun m hm => hm.elim) (fun p m hpm hv => ?_) hi
      · have h2 : ((backIn bs N o i)[j]?).getD false = true := by simpa using this
        rw [List.getElem?_eq_getElem hlt] at h2 ⊢
        exact congrArg some h2
      · have hp := (edge_lt hpm).1
        obtain ⟨b, hb⟩ : ∃ b, (backIn bs N o p)[j]? = some b := ⟨_, List.getElem?_eq_getElem (by rw [backIn_length hsh]; exact hj)⟩
        have hv' : blockU bs cs j p b ≠ false := by simpa [hb] using hv
        have h3 := backG_get (cs := cs) p hb
        rw [hset p hp] at h3
        have h4 := (backIn_true hsh m hj).2 ⟨p, hpm, by rw [h3]; simpa using hv'⟩
        simp [h4]
  rw [key n]
  constructor
  · intro hm q
    exact (mvV_ne.2 hm) (Option.some.inj q)
  · intro hq
    exact mvV_ne.1 (fun q => hq (by rw [endV, q]))
theorem potB_less {n : Nat} (h : BPhi bs cs N ((n : Int) :: l) o) (hne : backG bs cs N o n ≠ o n) (hn : n < bs.length) : potB N bs.length (upd o n (backG bs cs N o n)) < potB N bs.length o := by
  have hsh := h.shp
  have hlt : potR N (backG bs cs N o n) < potR N (o n) := by
    have hg : potR N (backG bs cs N o n) = (backIn bs N o n).count false := by
      unfold potR backG
      rw [backStates_length, if_neg (by omega), backStates_last]
    rw [hg]
    rcases h.form n with h1 | ⟨e, h1, h2, h3⟩
    · rw [h1]
      have := List.count_le_length (a := false) (l := backIn bs N o n)
      rw [backIn_length hsh] at this
      simp [potR]
      omega
    · have hp : potR N (o n) = e.count false := by
        rw [h2]
        unfold potR
        rw [backStates_length, if_neg (by omega), backStates_last]
      rw [hp]
      refine (count_less (e := false) (x := e) (y := backIn bs N o n) (by rw [h1, backIn_length hsh]) (fun j hj hx => ?_)).2 (fun q => hne ?_)
      · have : e[j]? = some true := by
          rw [List.getElem?_eq_getElem hj] at hx ⊢
          cases hb : e[j] with
          | false => exact absurd (by rw [hb]) hx
          | true => rfl
        rw [h3 j this]
        decide
      · rw [h2, backG, ← q]
        rfl
  refine (sum_less (fun i => potR N (o i)) (fun i => potR N (upd o n (backG bs cs N o n) i)) (List.range bs.length) (fun i _ => ?_)).2 n (List.mem_range.2 hn) ?_
  · simp only [upd]
    split
    · rename_i e1
      rw [e1]
      omega
    · exact Nat.le_refl _
  · simp only [upd, if_true]
    exact hlt
end
/-- The way of what is needed. -/
theorem back_way (bs : List Bk) (cs : List Ch) (N : Nat) {m : Nat} (hm : bs.length = m) : Way (List (List Bool)) m (fun o n => backG bs cs N o n) (fun n => predsL bs n) (fun x y => decide (x = y)) (BPhi bs cs N) (potB N m) := by
  subst hm
  refine ⟨fun l o h x hx => ?_, fun n l o h he => h.equal (of_decide_eq_true he), fun n l o h he => ⟨h.change, ?_⟩, fun n x hx => ?_⟩
  · obtain ⟨n, rfl, hn⟩ := h.rng x hx
    omega
  · obtain ⟨n', hn', hr⟩ := h.rng n List.mem_cons_self
    obtain rfl : n = n' := by omega
    exact potB_less h (of_decide_eq_false he) hr
  · obtain ⟨p, rfl, hp⟩ := mem_predsL.1 hx
    have := (edge_lt hp).2
    omega
end Go.Proofs.Ythgnbeeobhfeaaa.T
end
