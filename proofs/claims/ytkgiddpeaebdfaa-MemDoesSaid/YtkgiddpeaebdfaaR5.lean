/- The document's memory: New, Free, Clear. -/
import Derived.Test.YtkgiddpeaebdfaaR4
namespace Go.Proofs.Ytkgiddpeaebdfaa
open Go.RowKit

def Rf.freeE (R : Rf) (b : Bool) (a n : Int) : Int := if R.check b a ≠ 0 then R.check b a else if n ≠ 0 then 13 else 0
def Rf.free (R : Rf) (b : Bool) (a n : Int) : Rf := if R.freeE b a n = 0 then { R with bl := R.bl.set (a.toNat - 1) ((R.at a).1, true) } else R

theorem rcheck_zero {R : Rf} {b : Bool} {a : Int} (hc : R.check b a = 0) : b = true ∧ 1 ≤ a ∧ a ≤ R.bl.length ∧ (R.at a).2 = false := by
  unfold Rf.check at hc
  split at hc
  · simp at hc
  · split at hc
    · simp at hc
    · split at hc
      · simp at hc
      · rename_i h1 h2 h3
        exact ⟨by simpa using h1, by omega, by omega, by simpa using h3⟩

theorem set_same {α : Type} {l : List α} {i : Nat} {x : α} (h : l[i]? = some x) : l.set i x = l := by
  apply List.ext_getElem?
  intro j
  rw [List.getElem?_set]
  split
  · rename_i e
    subst e
    split
    · exact h.symm
    · rename_i h2
      rw [List.getElem?_eq_none (by omega)]
  · rfl

theorem blc_set2 (l : List (Int × Bool)) (i : Nat) (x : Int × Bool) (f : Bool) (h : l[i]? = some x) : blc (l.set i (x.1, f)) = (blc l).set (i * 2 + 1) (.bool f) := by
  rw [blc_set, set_same (blc_at l i x h).1]

section
variable {B : Nat} {W W' : World} {g : Nat} {F : Nat → Prop} {R : Rf} {v1 v2 : Value}

/-- One cell of an owned row is written. -/
theorem or_set {w : World} {base : Nat} {e : TypeId} {size n : Nat} {gb c : Nat} {xs : List Value} (h : w.ownsRow base e size (.slice (some ⟨gb, 0, none⟩) n c) n xs) (j : Nat) (u : Value) :
    (w.setCell ⟨gb, j, none⟩ u).ownsRow base e size (.slice (some ⟨gb, 0, none⟩) n c) n (xs.set j u) := by
  obtain ⟨hl, ⟨hv, _⟩ | ⟨k, cap, cur, hv, hb, hh, h1, h2, h3, ht⟩⟩ := h
  · cases hv
  · injection hv with hv _ hcap
    injection hv with hv
    injection hv with hv
    subst hv
    refine ⟨by simpa using hl, .inr ⟨gb, cap, cur.setIfInBounds j u, by rw [hcap], hb, blk_set hh j u, h1, h2, by simpa using h3, ?_⟩⟩
    rw [Array.toList_setIfInBounds, List.take_set, ht]

theorem RefAt.setB {gb c : Nat} (h : RefAt B W g F R (.slice (some ⟨gb, 0, none⟩) R.bl.length c) v2) {i : Nat} {x : Int × Bool} (hx : R.bl[i]? = some x) (f : Bool) :
    RefAt B (W.setCell ⟨gb, i * 2 + 1, none⟩ (.bool f)) g F { R with bl := R.bl.set i (x.1, f) } (.slice (some ⟨gb, 0, none⟩) R.bl.length c) v2 := by
  obtain ⟨hB, cells, hc⟩ := or_lt h.rb gb rfl
  have hne : ∀ k (e : TypeId) (cs : Array Value), W.heap[k]? = some (Obj.cells cs e (0, 0)) → e ≠ 57 → k ≠ gb := fun k e cs hk he q => by
    subst q
    have := hk.symm.trans hc
    injection this with this
    injection this with _ this
    exact he this
  have far : ∀ k, k ≠ gb → (W.setCell ⟨gb, i * 2 + 1, none⟩ (.bool f)).heap[k]? = W.heap[k]? := fun k hk => Below.heap_setCell _ _ _ _ hk
  refine ⟨(far _ (hne g 55 _ h.hg (by decide))).trans h.hg, h.fg, ?_, ?_, h.fb, h.fc, fun k hk => ?_, h.room0, ?_⟩
  · have := or_set h.rb (i * 2 + 1) (.bool f)
    rw [← blc_set2 R.bl i x f hx] at this
    simpa using this
  · refine or_move h.rc (fun k hk => far k ?_)
    obtain ⟨_, cs, hc2⟩ := or_lt h.rc k hk
    exact hne k 72 cs hc2 (by decide)
  · have hs : (W.setCell ⟨gb, i * 2 + 1, none⟩ (.bool f)).heap.size = W.heap.size := by simp [World.setCell]
    rw [hs]
    exact h.low k hk
  · refine ⟨by simpa using h.few.1, h.few.2.1, fun y hy => ?_⟩
    rcases List.mem_or_eq_of_mem_set hy with hy | rfl
    · exact h.few.2.2 y hy
    · exact h.few.2.2 x (List.mem_of_getElem? hx)
end

set_option maxHeartbeats 2000000 in
theorem rfree_any {B : Nat} {W : World} {g : Nat} {F : Nat → Prop} {R : Rf} {v1 v2 : Value} (h : RefAt B W g F R v1 v2) (b : Bool) (a n : Int) :
    Calls Try.prog 26 #[.pointer (some ⟨g, 0, none⟩), .agg #[.bool b, .int .i64 a, .int .i64 n]] W fun e W' =>
      e = .returned (.int .i64 (R.freeE b a n)) ∧ Ref B W' g F (R.free b a n) ∧ Kept F W W' := by
  have H := Lib.hid h
  have C0 := Lib.hid (rcheck_any (h.below (below_alloc (Below.refl _ W) (.cells #[.bool b, .int .i64 a, .int .i64 n] 23))) b a n)
  clear h
  go_enter Try.func26, Try.ntmps26
  go_wp2_with fail
  refine C0.out.mono ?_
  rintro e w1 ⟨rfl, b1⟩
  have z1 : Below W.heap.size W w1 := Below.trans (below_alloc (Below.refl _ W) _) (b1.mono (by simp))
  have H1 := Lib.hid (H.out.below z1)
  have P1 := Lib.hid (Box.below (Box.new W #[.bool b, .int .i64 a, .int .i64 n]) b1)
  obtain ⟨lp, hp, fp⟩ := P1.out.see
  clear C0 b1
  by_cases hc : R.check b a = 0
  · rw [hc]
    by_cases hn : n = 0
    · have e1 : R.freeE b a n = 0 := by rw [Rf.freeE, if_neg (by simp [hc]), if_neg (by simp [hn])]
      obtain ⟨_, r1, r2, r3⟩ := rcheck_zero hc
      obtain ⟨c0, c1, c2, c3, c4⟩ := H1.out.see
      have few := H1.out.few.1
      obtain ⟨A, cap, rfl⟩ := or_slice H1.out.rb
      obtain ⟨gb, rfl, hb, hlt, hfz, hcells⟩ := or_at H1.out.rb (by omega)
      have hget := R.at_get r1 r2
      have hx := hcells _ _ (blc_at R.bl _ _ hget).2
      have e2 : R.free b a n = { R with bl := R.bl.set (a.toNat - 1) ((R.at a).1, true) } := by rw [Rf.free, if_pos e1]
      have RB := Lib.hid (H1.out.setB hget true)
      have hFb : F gb := H1.out.fb gb rfl
      have E1 := Lib.hid e1
      have E2 := Lib.hid e2
      have h3 : 0 ≤ a - 1 := by omega
      have h4 : a - 1 < (R.bl.length : Int) := by omega
      have hp1 : w1.cell? ⟨W.heap.size, 1, none⟩ = some (.int .i64 a) := hp 1
      clear hcells hget hc e1 e2 r3
      go_wp2
      go_region
      all_goals go_wp2
      all_goals
        go_ret
        refine ⟨by rw [E1.out]; rfl, ?_, ((Kept.of_below z1).set2 _ _ hFb).drew⟩
        rw [E2.out]
        exact ⟨_, _, RB.out.below (below_drew (Below.refl _ _))⟩
    · have e1 : R.freeE b a n = 13 := by rw [Rf.freeE, if_neg (by simp [hc]), if_pos hn]
      have e2 : R.free b a n = R := by rw [Rf.free, e1, if_neg (by decide)]
      have hx : (n == 0) = false := by simpa using hn
      have E1 := Lib.hid e1
      have E2 := Lib.hid e2
      clear hc hn e1 e2
      go_wp2
      go_ret
      rw [E1.out, E2.out]
      exact ⟨rfl, ⟨v1, v2, H1.out⟩, Kept.of_below z1⟩
  · have e1 : R.freeE b a n = R.check b a := by rw [Rf.freeE, if_pos hc]
    have e2 : R.free b a n = R := by rw [Rf.free, e1, if_neg hc]
    have E1 := Lib.hid e1
    have E2 := Lib.hid e2
    have hx : (R.check b a == 0) = false := by simpa using hc
    clear hc e1 e2
    generalize hgx : R.check b a = x at *
    have HG := Lib.hid hgx
    clear hgx
    go_wp2
    go_ret
    rw [E1.out, E2.out]
    exact ⟨rfl, ⟨v1, v2, H1.out⟩, Kept.of_below z1⟩

theorem ref_new (W : World) (n m : Int) (hm : (Rf.new n).room = m) : Ref W.heap.size (W.alloc (.cells #[.int .i64 m, .slice none 0 0, .slice none 0 0] 55)) W.heap.size (fun k => k = W.heap.size) (Rf.new n) := by
  subst hm
  refine ⟨_, _, heap_alloc_new W _, rfl, World.ownsRow_nil _ _ _ _, World.ownsRow_nil _ _ _ _, ?_, ?_, ?_, ?_, ?_⟩
  · intro k hk; cases hk
  · intro k hk; cases hk
  · rintro k rfl; simp
  · simp only [Rf.new]; omega
  · simp [Rf.new]

theorem rnew_any (W : World) (n : Int) :
    Calls Try.prog 24 #[.int .i64 n] W fun e W' => e = .returned (.pointer (some ⟨W.heap.size, 0, none⟩)) ∧ Ref W.heap.size W' W.heap.size (fun k => k = W.heap.size) (Rf.new n) ∧ Below W.heap.size W W' := by
  go_enter Try.func24, Try.ntmps24
  go_wp2
  all_goals
    go_ret
    exact ⟨rfl, ref_new W n _ (by simp only [Rf.new]; omega), below_alloc (Below.refl _ _) _⟩

def Rf.dropN (R : Rf) (a n : Int) : Nat → Rf
  | 0 => R
  | k + 1 => (R.dropN a n k).drop a (n + k)
def Rf.clearE (R : Rf) (b : Bool) (a n k : Int) : Int := if k < 0 then 1 else if R.check b a ≠ 0 then R.check b a else if R.has a n k = false then 13 else 0
def Rf.clear (R : Rf) (b : Bool) (a n k : Int) : Rf := if R.clearE b a n k = 0 then R.dropN a n k.toNat else R

theorem dropN_bl {R : Rf} {a n : Int} : ∀ k, (R.dropN a n k).bl = R.bl
  | 0 => rfl
  | k + 1 => (dropN_bl k : _)

theorem rhas_true {R : Rf} {a n k : Int} (h : R.has a n k = true) : 0 ≤ n ∧ k ≤ (R.at a).1 ∧ n ≤ (R.at a).1 - k := by
  simpa [Rf.has, and_assoc] using h

set_option maxHeartbeats 2000000 in
theorem rclear_any {B : Nat} {W : World} {g : Nat} {F : Nat → Prop} {R : Rf} {v1 v2 : Value} (h : RefAt B W g F R v1 v2) (b : Bool) (a n k : Int) (hk : k ≤ 1048576) :
    Calls Try.prog 30 #[.pointer (some ⟨g, 0, none⟩), .agg #[.bool b, .int .i64 a, .int .i64 n], .int .i64 k] W fun e W' =>
      e = .returned (.int .i64 (R.clearE b a n k)) ∧ (∃ F', Ref B W' g F' (R.clear b a n k) ∧ ∀ k, F' k → F k ∨ W.heap.size ≤ k) ∧ Kept F W W' := by
  have H := Lib.hid h
  have C0 := Lib.hid (rcheck_any (h.below (below_alloc (Below.refl _ W) (.cells #[.bool b, .int .i64 a, .int .i64 n] 23))) b a n)
  have hF := Lib.hid (fun k hk => (h.low k hk).2)
  clear h
  by_cases hk0 : k < 0
  · have e1 : R.clearE b a n k = 1 := by rw [Rf.clearE, if_pos hk0]
    have e2 : R.clear b a n k = R := by rw [Rf.clear, e1, if_neg (by decide)]
    have E1 := Lib.hid e1
    have E2 := Lib.hid e2
    clear e1 e2 C0
    go_enter Try.func30, Try.ntmps30
    go_wp2
    go_ret
    rw [E1.out, E2.out]
    exact ⟨rfl, ⟨F, ⟨v1, v2, H.out.below (below_alloc (Below.refl _ W) _)⟩, fun _ h => .inl h⟩, Kept.of_below (below_alloc (Below.refl _ W) _)⟩
  obtain ⟨k, rfl⟩ : ∃ m : Nat, k = m := ⟨k.toNat, by omega⟩
  clear hk0
  go_enter Try.func30, Try.ntmps30
  go_wp2_with fail
  refine C0.out.mono ?_
  rintro e w1 ⟨rfl, b1⟩
  have z1 : Below W.heap.size W w1 := Below.trans (below_alloc (Below.refl _ W) _) (b1.mono (by simp))
  have H1 := Lib.hid (H.out.below z1)
  have P1 := Lib.hid (Box.below (Box.new W #[.bool b, .int .i64 a, .int .i64 n]) b1)
  obtain ⟨lp, hp, fp⟩ := P1.out.see
  clear C0 b1
  by_cases hc : R.check b a = 0
  · have C2 := Lib.hid (rhas_any H1.out b a n k hc (by omega) (by omega))
    rw [hc]
    go_wp2_with fail
    refine C2.out.mono ?_
    rintro e w2 ⟨rfl, b2⟩
    have z2 : Below W.heap.size W w2 := z1.trans (b2.mono z1.size)
    have H2 := Lib.hid (H1.out.below b2)
    have P2 := Lib.hid (P1.out.below b2)
    clear C2 b2 P1 H1 lp hp fp
    obtain ⟨lp, hp, fp⟩ := P2.out.see
    cases hh : R.has a n k
    · have e1 : R.clearE b a n k = 13 := by rw [Rf.clearE, if_neg (by omega), if_neg (by simp [hc]), if_pos hh]
      have e2 : R.clear b a n k = R := by rw [Rf.clear, e1, if_neg (by decide)]
      have E1 := Lib.hid e1
      have E2 := Lib.hid e2
      clear hc hh e1 e2
      go_wp2
      go_ret
      rw [E1.out, E2.out]
      exact ⟨rfl, ⟨F, ⟨v1, v2, H2.out⟩, fun _ h => .inl h⟩, Kept.of_below z2⟩
    · have e1 : R.clearE b a n k = 0 := by rw [Rf.clearE, if_neg (by omega), if_neg (by simp [hc]), if_neg (by simp [hh])]
      have e2 : R.clear b a n k = R.dropN a n k := by rw [Rf.clear, if_pos e1]; rfl
      obtain ⟨r0, r1, r2⟩ := rhas_true hh
      obtain ⟨_, r3, r4, _⟩ := rcheck_zero hc
      have r5 := H2.out.few.2.2 _ (List.mem_of_getElem? (R.at_get r3 r4))
      have r6 : n ≤ 1048576 := by omega
      have E1 := Lib.hid e1
      have E2 := Lib.hid e2
      clear hc hh e1 e2 r1 r2 r3 r4 r5 lp hp fp z1
      go_wp2_with fail
      go_loopw [8] (fun i wr => ∃ (t : Nat) (F1 : Nat → Prop), t ≤ k ∧ i = .int .i64 t ∧ Hid (Ref B wr g F1 (R.dropN a n t)) ∧ Hid (∀ k, F1 k → F k ∨ W.heap.size < k) ∧ Hid (Box wr W.heap.size #[.bool b, .int .i64 a, .int .i64 n]) ∧ Hid (Kept F W wr)) (fun i _ => k - (intOf i).toNat)
      case atStart => exact ⟨0, F, Nat.zero_le _, rfl, Lib.hid ⟨v1, v2, H2.out⟩, Lib.hid (fun _ h => .inl h), P2, Lib.hid (Kept.of_below z2)⟩
      case round =>
        obtain ⟨t, F1, ht, rfl, hr, hf, hbx, hkp⟩ := hrel
        clear H2 P2 z2
        obtain ⟨lp, hp, fp⟩ := hbx.out.see
        by_cases hlt : t < k
        · obtain ⟨u1, u2, hr⟩ : ∃ u1 u2, Hid (RefAt B wr g F1 (R.dropN a n t) u1 u2) := by
            obtain ⟨u1, u2, h⟩ := hr.out
            exact ⟨u1, u2, Lib.hid h⟩
          have C3 := Lib.hid (rdrop_any hr.out a (n + t))
          have hlt2 : (t : Int) < (k : Int) := by omega
          go_wp2_with fail
          refine C3.out.mono ?_
          rintro e w3 ⟨rfl, ⟨v, r3, q3⟩, k3⟩
          have hNF : ¬ F1 W.heap.size := fun h => (hf.out _ h).elim (fun h => by have := hF.out _ h; omega) (fun h => by omega)
          have X1 : Hid (Ref B w3 g (fun k => F1 k ∨ v.ownBlock = some k) (R.dropN a n (t + 1))) := Lib.hid ⟨_, _, r3⟩
          have X2 : Hid (∀ k, (F1 k ∨ v.ownBlock = some k) → F k ∨ W.heap.size < k) := Lib.hid (fun k hk => hk.elim (hf.out k) (fun e => .inr (by have := q3 k e; omega)))
          have X3 := Lib.hid (hbx.out.kept k3 hNF)
          have X4 : Hid (Kept F W w3) := Lib.hid (hkp.out.trans k3 (fun i hi h => (hf.out i h).elim id (fun h => by omega)))
          clear C3 r3 q3 k3 hr hf hbx hkp lp hp fp
          go_wp2
          go_roundw
          case rel => exact ⟨t + 1, _, by omega, by go_num, X1, X2, X3, X4⟩
          case measure => simp [intOf]; omega
        · obtain rfl : t = k := by omega
          go_wp2
          go_ret
          rw [E1.out, E2.out]
          exact ⟨rfl, ⟨F1, hr.out, fun k hk => (hf.out k hk).imp id (fun h => by omega)⟩, hkp.out⟩
  · have e1 : R.clearE b a n k = R.check b a := by rw [Rf.clearE, if_neg (by omega), if_pos hc]
    have e2 : R.clear b a n k = R := by rw [Rf.clear, e1, if_neg hc]
    have E1 := Lib.hid e1
    have E2 := Lib.hid e2
    have hx : (R.check b a == 0) = false := by simpa using hc
    clear hc e1 e2
    generalize hgx : R.check b a = x at *
    have HG := Lib.hid hgx
    clear hgx
    go_wp2
    go_ret
    rw [E1.out, E2.out]
    exact ⟨rfl, ⟨F, ⟨v1, v2, H1.out⟩, fun _ h => .inl h⟩, Kept.of_below z1⟩
end Go.Proofs.Ytkgiddpeaebdfaa
