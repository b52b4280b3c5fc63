/- The document's memory: Words, Live, Load. -/
import Derived.Test.YtkgiddpeaebdfaaR1
namespace Go.Proofs.Ytkgiddpeaebdfaa
open Go.RowKit

def wsum (l : List (Int × Bool)) : Int := ((l.filter fun x => !x.2).map fun x => x.1).sum
def lsum (l : List (Int × Bool)) : Int := (l.filter fun x => !x.2).length
theorem wsum_snoc (l : List (Int × Bool)) (x : Int × Bool) : wsum (l ++ [x]) = wsum l + if x.2 = true then 0 else x.1 := by
  cases h : x.2 <;> simp [wsum, List.filter_append, h]
theorem lsum_snoc (l : List (Int × Bool)) (x : Int × Bool) : lsum (l ++ [x]) = lsum l + if x.2 = true then 0 else 1 := by
  cases h : x.2 <;> simp [lsum, List.filter_append, h]
theorem take_snoc {α : Type} {l : List α} {t : Nat} {x : α} (h : l[t]? = some x) : l.take (t + 1) = l.take t ++ [x] := by rw [List.take_add_one, h]; rfl
theorem wsum_bound (l : List (Int × Bool)) (h : ∀ x ∈ l, 0 ≤ x.1 ∧ x.1 ≤ 1048576) : 0 ≤ wsum l ∧ wsum l ≤ l.length * 1048576 := by
  induction l with
  | nil => simp [wsum]
  | cons x l ih =>
    have h1 := h x (by simp)
    have h2 := ih (fun y hy => h y (by simp [hy]))
    cases hx : x.2
    · have : wsum (x :: l) = x.1 + wsum l := by simp [wsum, hx]
      rw [this, List.length_cons]
      omega
    · have : wsum (x :: l) = wsum l := by simp [wsum, hx]
      rw [this, List.length_cons]
      omega
theorem wsum_take (l : List (Int × Bool)) (h : ∀ x ∈ l, 0 ≤ x.1 ∧ x.1 ≤ 1048576) (hl : l.length ≤ 1000) (t : Nat) : 0 ≤ wsum (l.take t) ∧ wsum (l.take t) ≤ 1048576000 := by
  have := wsum_bound (l.take t) (fun x hx => h x (List.mem_of_mem_take hx))
  have h2 : (l.take t).length ≤ l.length := by simp; omega
  omega
theorem lsum_take (l : List (Int × Bool)) (hl : l.length ≤ 1000) (t : Nat) : 0 ≤ lsum (l.take t) ∧ lsum (l.take t) ≤ 1000 := by
  have h1 : ((l.take t).filter fun x => !x.2).length ≤ (l.take t).length := List.length_filter_le _ _
  have h2 : (l.take t).length ≤ l.length := by simp; omega
  unfold lsum
  omega

section
variable {B : Nat} {W : World} {g : Nat} {F : Nat → Prop} {R : Rf} {v1 v2 : Value}

theorem rwords_any (h : RefAt B W g F R v1 v2) : Calls Try.prog 32 #[.pointer (some ⟨g, 0, none⟩)] W fun e W' => e = .returned (.int .i64 R.words) ∧ Below W.heap.size W W' := by
  obtain ⟨c0, c1, c2, c3, c4⟩ := h.see
  have few := h.few.1
  have hN := Lib.hid h.few.2.2
  obtain ⟨A, cap, rfl⟩ := or_slice h.rb
  have H := Lib.hid h
  clear h
  go_enter Try.func32, Try.ntmps32
  go_wp2_with fail
  go_loopw [3, 4] (fun s i wr => ∃ t : Nat, t ≤ R.bl.length ∧ i = .int .i64 t ∧ s = .int .i64 (wsum (R.bl.take t)) ∧ wr = W) (fun _ i _ => R.bl.length - (intOf i).toNat)
  case atStart => exact ⟨0, Nat.zero_le _, rfl, rfl, rfl⟩
  case round =>
    obtain ⟨t, ht, rfl, rfl, rfl⟩ := hrel
    obtain ⟨s0, s1⟩ := wsum_take R.bl hN.out few t
    by_cases hlt : t < R.bl.length
    · obtain ⟨gb, rfl, hb, hgl, _, hcells⟩ := or_at H.out.rb (by omega)
      obtain ⟨x, hx⟩ : ∃ x, R.bl[t]? = some x := ⟨_, List.getElem?_eq_getElem hlt⟩
      obtain ⟨u0, u1⟩ := blc_at R.bl t x hx
      have x0 := hcells _ _ u0
      have x1 := hcells _ _ u1
      obtain ⟨b0, b1⟩ := hN.out x (List.mem_of_getElem? hx)
      have hsn := wsum_snoc (R.bl.take t) x
      rw [← take_snoc hx] at hsn
      have HS := Lib.hid hsn
      clear hcells u0 u1 hx hsn
      have hti : (0 : Int) ≤ (t : Int) := by omega
      have htl : (t : Int) < (R.bl.length : Int) := by omega
      obtain ⟨x, f⟩ := x
      cases f
      · go_wp2
        go_roundw
        case rel => exact ⟨t + 1, by omega, by go_num, by rw [HS.out]; rfl, trivial⟩
        case measure => simp [intOf]; omega
      · go_wp2
        go_roundw
        case rel => exact ⟨t + 1, by omega, by go_num, by rw [HS.out]; simp, trivial⟩
        case measure => simp [intOf]; omega
    · obtain rfl : t = R.bl.length := by omega
      go_wp2
      go_ret
      exact ⟨by simp [Rf.words, wsum], Below.refl _ _⟩

theorem rlive_any (h : RefAt B W g F R v1 v2) : Calls Try.prog 31 #[.pointer (some ⟨g, 0, none⟩)] W fun e W' => e = .returned (.int .i64 R.live) ∧ Below W.heap.size W W' := by
  obtain ⟨c0, c1, c2, c3, c4⟩ := h.see
  have few := h.few.1
  obtain ⟨A, cap, rfl⟩ := or_slice h.rb
  have H := Lib.hid h
  clear h
  go_enter Try.func31, Try.ntmps31
  go_wp2_with fail
  go_loopw [3, 4] (fun s i wr => ∃ t : Nat, t ≤ R.bl.length ∧ i = .int .i64 t ∧ s = .int .i64 (lsum (R.bl.take t)) ∧ wr = W) (fun _ i _ => R.bl.length - (intOf i).toNat)
  case atStart => exact ⟨0, Nat.zero_le _, rfl, rfl, rfl⟩
  case round =>
    obtain ⟨t, ht, rfl, rfl, rfl⟩ := hrel
    obtain ⟨s0, s1⟩ := lsum_take R.bl few t
    by_cases hlt : t < R.bl.length
    · obtain ⟨gb, rfl, hb, hgl, _, hcells⟩ := or_at H.out.rb (by omega)
      obtain ⟨x, hx⟩ : ∃ x, R.bl[t]? = some x := ⟨_, List.getElem?_eq_getElem hlt⟩
      obtain ⟨u0, u1⟩ := blc_at R.bl t x hx
      have x0 := hcells _ _ u0
      have x1 := hcells _ _ u1
      have hsn := lsum_snoc (R.bl.take t) x
      rw [← take_snoc hx] at hsn
      have HS := Lib.hid hsn
      clear hcells u0 u1 hx hsn
      have hti : (0 : Int) ≤ (t : Int) := by omega
      have htl : (t : Int) < (R.bl.length : Int) := by omega
      obtain ⟨x, f⟩ := x
      cases f
      · go_wp2
        go_roundw
        case rel => exact ⟨t + 1, by omega, by go_num, by rw [HS.out]; rfl, trivial⟩
        case measure => simp [intOf]; omega
      · go_wp2
        go_roundw
        case rel => exact ⟨t + 1, by omega, by go_num, by rw [HS.out]; simp, trivial⟩
        case measure => simp [intOf]; omega
    · obtain rfl : t = R.bl.length := by omega
      go_wp2
      go_ret
      exact ⟨by simp [Rf.live, lsum], Below.refl _ _⟩

theorem find_hit {l : List Ce} {a n : Int} {t : Nat} {x : Ce} (hx : l[t]? = some x) (hm : x.a = a ∧ x.n = n) (hp : ∀ j y, j < t → l[j]? = some y → ¬ (y.a = a ∧ y.n = n)) : (l.find? fun x => x.a == a && x.n == n) = some x := by
  induction l generalizing t with
  | nil => simp at hx
  | cons y l ih =>
    cases t with
    | zero => simp at hx; subst hx; simp [List.find?, hm.1, hm.2]
    | succ t =>
      have h0 := hp 0 y (by omega) rfl
      have : (y.a == a && y.n == n) = false := by
        rw [Bool.and_eq_false_iff]
        by_cases e : y.a = a
        · exact .inr (by simpa using fun e2 => h0 ⟨e, e2⟩)
        · exact .inl (by simpa using e)
      simp only [List.find?, this]
      exact ih (t := t) (by simpa using hx) (fun j z hj hz => hp (j + 1) z (by omega) (by simpa using hz))
theorem find_none {l : List Ce} {a n : Int} (hp : ∀ j y, j < l.length → l[j]? = some y → ¬ (y.a = a ∧ y.n = n)) : (l.find? fun x => x.a == a && x.n == n) = none := by
  rw [List.find?_eq_none]
  intro x hx hc
  obtain ⟨j, hj, rfl⟩ := List.getElem_of_mem hx
  exact hp j _ hj (List.getElem?_eq_getElem hj) (by simpa using hc)

set_option maxHeartbeats 1000000 in
theorem rload_any (h : RefAt B W g F R v1 v2) (b : Bool) (a n : Int) :
    Calls Try.prog 27 #[.pointer (some ⟨g, 0, none⟩), .agg #[.bool b, .int .i64 a, .int .i64 n]] W fun e W' =>
      e = .returned (.tuple #[.agg #[.bool (R.loadW b a n).p, .int .i64 (R.loadW b a n).a, .int .i64 (R.loadW b a n).n], .int .i64 (R.loadE b a n)]) ∧ Below W.heap.size W W' := by
  have H := Lib.hid h
  have C0 := Lib.hid (rcheck_any (h.below (below_alloc (below_alloc (Below.refl _ W) (.cells #[.bool b, .int .i64 a, .int .i64 n] 23)) (.cells #[.bool false, .int .i64 0, .int .i64 0] 23))) b a n)
  clear h
  go_enter Try.func27, Try.ntmps27
  go_wp2_with fail
  refine C0.out.mono ?_
  rintro e w1 ⟨rfl, b1⟩
  have z1 : Below W.heap.size W w1 := Below.trans (below_alloc (below_alloc (Below.refl _ W) _) _) (b1.mono (by simp; omega))
  have H1 := Lib.hid (H.out.below z1)
  have P1 := Lib.hid (Box.below ((Box.new W #[.bool b, .int .i64 a, .int .i64 n]).alloc (.cells #[.bool false, .int .i64 0, .int .i64 0] 23)) b1)
  have Q1 := Lib.hid (Box.below (Box.newAt (w := W.alloc (.cells #[.bool b, .int .i64 a, .int .i64 n] 23)) (x := W.heap.size + 1) (cs := #[.bool false, .int .i64 0, .int .i64 0]) (by simp)) b1)
  obtain ⟨lp, hp, fp⟩ := P1.out.see
  obtain ⟨lq, hq, fq⟩ := Q1.out.see
  clear C0 b1
  by_cases hc : R.check b a = 0
  · have C2 := Lib.hid (rhas_any H1.out b a n 1 hc (by omega) (by omega))
    rw [hc]
    go_wp2_with fail
    refine C2.out.mono ?_
    rintro e w2 ⟨rfl, b2⟩
    have z2 : Below W.heap.size W w2 := z1.trans (b2.mono z1.size)
    have H2 := Lib.hid (H1.out.below b2)
    have P2 := Lib.hid (P1.out.below b2)
    have Q2 := Lib.hid (Q1.out.below b2)
    clear C2 b2 P1 Q1 H1 lp hp fp lq hq fq
    obtain ⟨lp, hp, fp⟩ := P2.out.see
    obtain ⟨lq, hq, fq⟩ := Q2.out.see
    cases hh : R.has a n 1
    · have e1 : R.loadE b a n = 13 := by rw [Rf.loadE, if_neg (by simp [hc]), if_pos hh]
      have e2 : R.loadW b a n = Wd.zero := by rw [Rf.loadW, e1, if_neg (by decide)]
      have E1 := Lib.hid e1
      have E2 := Lib.hid e2
      clear hc hh e1 e2
      go_wp2
      exact bodyPost_ret (v := .tuple #[.agg #[.bool false, .int .i64 0, .int .i64 0], .int .i64 13]) (by (simp only [results, Try.results27]); go_simp) rfl ⟨by rw [E1.out, E2.out]; rfl, by repeat (first | exact z2 | (refine below_set ?_ (by simp) _) | apply below_alloc | apply below_drewN)⟩
    · have e1 : R.loadE b a n = if (R.find a n).isSome = true then 0 else 14 := by rw [Rf.loadE, if_neg (by simp [hc]), if_neg (by simp [hh])]
      have e2 : R.loadW b a n = ((R.find a n).map Ce.w).getD Wd.zero := by
        rw [Rf.loadW, e1]
        cases R.find a n <;> simp
      have E1 := Lib.hid e1
      have E2 := Lib.hid e2
      clear hc hh e1 e2 lp hp fp lq hq fq z1
      go_wp2_with fail
      go_loopw [7] (fun i wr => ∃ t : Nat, t ≤ R.ce.length ∧ i = .int .i64 t ∧ Hid (∀ j y, j < t → R.ce[j]? = some y → ¬ (y.a = a ∧ y.n = n)) ∧ Hid (RefAt B wr g F R v1 v2) ∧ Hid (Box wr W.heap.size #[.bool b, .int .i64 a, .int .i64 n]) ∧ Hid (Box wr (W.heap.size + 1) #[.bool false, .int .i64 0, .int .i64 0]) ∧ Below W.heap.size W wr) (fun i _ => R.ce.length - (intOf i).toNat)
      case atStart => exact ⟨0, Nat.zero_le _, rfl, Lib.hid (fun j y hj => absurd hj (Nat.not_lt_zero _)), H2, P2, Q2, z2⟩
      case round =>
        obtain ⟨t, ht, rfl, hno, h3, p3, q3, z3⟩ := hrel
        clear H2 P2 Q2 z2
        obtain ⟨c0, c1, c2, c3, c4⟩ := h3.out.see
        obtain ⟨lp, hp, fp⟩ := p3.out.see
        obtain ⟨lq, hq, fq⟩ := q3.out.see
        obtain ⟨A, cap, rfl⟩ := or_slice h3.out.rc
        by_cases hlt : t < R.ce.length
        · obtain ⟨gb, rfl, hb, hgl, _, hcells⟩ := or_at h3.out.rc (by omega)
          obtain ⟨x, hx⟩ : ∃ x, R.ce[t]? = some x := ⟨_, List.getElem?_eq_getElem hlt⟩
          obtain ⟨u0, u1, u2, u3, u4⟩ := cec_at R.ce t x hx
          have x0 := hcells _ _ u0
          have x1 := hcells _ _ u1
          have x2 := hcells _ _ u2
          have x3 := hcells _ _ u3
          have x4 := hcells _ _ u4
          have few := h3.out.few.2.1
          have HX := Lib.hid hx
          clear hcells u0 u1 u2 u3 u4 hx
          have hti : (0 : Int) ≤ (t : Int) := by omega
          have htl : (t : Int) < (R.ce.length : Int) := by omega
          by_cases m1 : x.a = a
          · have d1 : (x.a == a) = true := by simpa using m1
            by_cases m2 : x.n = n
            · have d2 : (x.n == n) = true := by simpa using m2
              have ef : R.find a n = some x := find_hit HX.out ⟨m1, m2⟩ hno.out
              have EF := Lib.hid ef
              clear ef m1 m2
              go_wp2
              go_quiet (fail)
              go_wp2
              exact bodyPost_ret (v := .tuple #[.agg #[.bool x.w.p, .int .i64 x.w.a, .int .i64 x.w.n], .int .i64 0]) (by (simp only [results, Try.results27]); go_simp) rfl ⟨by rw [E1.out, E2.out, EF.out]; rfl, by repeat (first | exact z3 | (refine below_set ?_ (by simp) _) | apply below_alloc | apply below_drewN)⟩
            · have d2 : (x.n == n) = false := by simpa using m2
              have hno2 : Hid (∀ j y, j < t + 1 → R.ce[j]? = some y → ¬ (y.a = a ∧ y.n = n)) := Lib.hid (fun j y hj hy => by
                by_cases e : j = t
                · subst e; rw [HX.out] at hy; injection hy with hy; subst hy; exact fun q => m2 q.2
                · exact hno.out j y (by omega) hy)
              clear m1 m2
              go_wp2
              go_quiet (fail)
              go_wp2
              go_roundw
              case rel => exact ⟨t + 1, by omega, by go_num, hno2, Lib.hid (h3.out.below (below_drewN (Below.refl _ _) _)), Lib.hid (p3.out.drewN _), Lib.hid (q3.out.drewN _), below_drewN z3 _⟩
              case measure => simp [intOf]; omega
          · have d1 : (x.a == a) = false := by simpa using m1
            have hno2 : Hid (∀ j y, j < t + 1 → R.ce[j]? = some y → ¬ (y.a = a ∧ y.n = n)) := Lib.hid (fun j y hj hy => by
              by_cases e : j = t
              · subst e; rw [HX.out] at hy; injection hy with hy; subst hy; exact fun q => m1 q.1
              · exact hno.out j y (by omega) hy)
            clear m1
            go_wp2
            go_quiet (fail)
            go_wp2
            go_roundw
            case rel => exact ⟨t + 1, by omega, by go_num, hno2, Lib.hid (h3.out.below (below_drewN (Below.refl _ _) _)), Lib.hid (p3.out.drewN _), Lib.hid (q3.out.drewN _), below_drewN z3 _⟩
            case measure => simp [intOf]; omega
        · obtain rfl : t = R.ce.length := by omega
          have ef : R.find a n = none := find_none hno.out
          have EF := Lib.hid ef
          clear ef
          go_wp2
          exact bodyPost_ret (v := .tuple #[.agg #[.bool false, .int .i64 0, .int .i64 0], .int .i64 14]) (by (simp only [results, Try.results27]); go_simp) rfl ⟨by rw [E1.out, E2.out, EF.out]; rfl, by repeat (first | exact z3 | (refine below_set ?_ (by simp) _) | apply below_alloc | apply below_drewN)⟩
  · have e1 : R.loadE b a n = R.check b a := by rw [Rf.loadE, if_pos hc]
    have e2 : R.loadW b a n = Wd.zero := by rw [Rf.loadW, e1, if_neg hc]
    have E1 := Lib.hid e1
    have E2 := Lib.hid e2
    have hx : (R.check b a == 0) = false := by simpa using hc
    clear hc e1 e2
    have hcx := hx
    generalize hgx : R.check b a = x at *
    have HG := Lib.hid hgx
    clear hgx hcx
    go_wp2
    exact bodyPost_ret (v := .tuple #[.agg #[.bool false, .int .i64 0, .int .i64 0], .int .i64 x]) (by (simp only [results, Try.results27]); go_simp) rfl ⟨by rw [E1.out, E2.out]; rfl, by repeat (first | exact z1 | (refine below_set ?_ (by simp) _) | apply below_alloc | apply below_drewN)⟩
end
end Go.Proofs.Ytkgiddpeaebdfaa
