/- MemClear: words that are cleared cannot be loaded; all others are as they were. The walk of the law. -/
import Derived.Test.YtkgiddpeaebdfaaOpen
import Derived.Deep.RegionWith
import Derived.LoopTactic
namespace Go.Proofs.Ytkgiddpeaebdfaa
open Go.RowKit

def clB (l : List Wd) (t : Nat) : Bk := ⟨l.take t ++ List.replicate (l.length - t) Wd.zero, List.replicate t true ++ List.replicate (l.length - t) false, false⟩
def clS (l : List Wd) (t : Nat) : Me := ⟨100, l.length, 1, [clB l t]⟩
def clT (l : List Wd) (from_ n : Int) : Me := ⟨100, l.length, 1, [⟨l, splice (List.replicate l.length true) from_.toNat (List.replicate n.toNat false), false⟩]⟩

section
variable {l : List Wd} {t : Nat} {from_ n : Int}
theorem new100 : Me.new 100 = ⟨100, 0, 0, []⟩ := by simp [Me.new]; decide
theorem cl_e1 (h : l.length ≤ 40) : (Me.new 100).allocE l.length = 0 := by rw [new100]; simp [Me.allocE]; omega
theorem cl_1 (h : l.length ≤ 40) : (Me.new 100).alloc l.length = clS l 0 := by rw [Me.alloc, if_pos (cl_e1 h), new100]; simp [clS, clB]
theorem cl_w1 (h : l.length ≤ 40) : (Me.new 100).allocW l.length = ⟨true, 1, 0⟩ := by rw [Me.allocW, if_pos (cl_e1 h), new100]; simp
theorem clB_ws (l : List Wd) (t : Nat) (h : t ≤ l.length) : (clB l t).ws.length = l.length := by simp [clB]; omega
theorem cl_p (h : t < l.length) : (clS l t).pieceE true 1 t 1 = 0 := by
  have := clB_ws l t (by omega)
  have f : (clB l t).freed = false := rfl
  simp [Me.pieceE, Me.blockE, clS, Me.at, this, f]; omega
theorem cl_s (h : t < l.length) (x : Wd) (hx : l[t]? = some x) : (clS l t).store true 1 t ⟨x.p, x.a, x.n⟩ = clS l (t + 1) := by
  rw [Me.store, if_pos (cl_p h)]
  have e1 : l.take (t + 1) = l.take t ++ [x] := by rw [List.take_add_one, hx]; rfl
  have e2 : l.length - t = (l.length - (t + 1)) + 1 := by omega
  have e3 : (l.take t).length = t := by simp; omega
  simp only [clS, Me.setAt, Me.at, clB, e1, Int.toNat_natCast]
  rw [e2, List.replicate_succ, List.replicate_succ]
  simp [e3, List.replicate_succ', List.append_assoc]
theorem cl_full : clS l l.length = ⟨100, l.length, 1, [⟨l, List.replicate l.length true, false⟩]⟩ := by simp [clS, clB]
theorem cl_pc (h0 : 0 ≤ from_) (h1 : 0 ≤ n) (h2 : n ≤ (l.length : Int) - from_) : (clS l l.length).clearE true 1 from_ n = 0 := by
  rw [cl_full]; simp [Me.clearE, Me.pieceE, Me.blockE, Me.at]; omega
theorem cl_c (h0 : 0 ≤ from_) (h1 : 0 ≤ n) (h2 : n ≤ (l.length : Int) - from_) : (clS l l.length).clear true 1 from_ n = clT l from_ n := by
  rw [Me.clear, if_pos (cl_pc h0 h1 h2), cl_full]; simp [Me.setAt, Me.at, clT]
theorem splice_get {a c : Bool} {m i k : Nat} (h : i + k ≤ m) (j : Nat) (hj : j < m) : (splice (List.replicate m a) i (List.replicate k c)).getD j a = if i ≤ j ∧ j < i + k then c else a := by
  rw [List.getD_eq_getElem?_getD]
  simp only [splice, List.take_replicate, List.drop_replicate, List.length_replicate]
  rw [List.getElem?_append]
  simp only [List.length_replicate, List.getElem?_replicate, List.getElem?_append]
  by_cases h1 : j < i
  · rw [if_pos (by omega), if_pos (by omega), if_neg (by omega)]; rfl
  · by_cases h2 : j < i + k
    · rw [if_neg (by omega), if_pos (by omega), if_pos (by omega), if_pos (by omega)]; rfl
    · rw [if_neg (by omega), if_neg (by omega), if_pos (by omega), if_neg (by omega)]; rfl
theorem clT_st (h0 : 0 ≤ from_) (h1 : 0 ≤ n) (h2 : n ≤ (l.length : Int) - from_) (ht : t < l.length) : ((clT l from_ n).at 1).st.getD t false = if from_ ≤ t ∧ (t : Int) < from_ + n then false else true := by
  have hh := splice_get (a := true) (c := false) (m := l.length) (i := from_.toNat) (k := n.toNat) (by omega) t ht
  have hl : (splice (List.replicate l.length true) from_.toNat (List.replicate n.toNat false)).length = l.length := by rw [splice_length _ _ _ (by simp; omega)]; simp
  have e : ((clT l from_ n).at 1).st = splice (List.replicate l.length true) from_.toNat (List.replicate n.toNat false) := rfl
  have g : ∀ d, (splice (List.replicate l.length true) from_.toNat (List.replicate n.toNat false)).getD t d = (splice (List.replicate l.length true) from_.toNat (List.replicate n.toNat false))[t]'(by omega) := by
    intro d; rw [List.getD_eq_getElem?_getD, List.getElem?_eq_getElem (by omega)]; rfl
  rw [e, g false, ← g true, hh]
  by_cases hc : from_ ≤ t ∧ (t : Int) < from_ + n
  · rw [if_pos hc, if_pos (by omega)]
  · rw [if_neg hc, if_neg (by omega)]
theorem cl_pt (ht : t < l.length) : (clT l from_ n).pieceE true 1 t 1 = 0 := by simp [Me.pieceE, Me.blockE, clT, Me.at]; omega
theorem cl_le (h0 : 0 ≤ from_) (h1 : 0 ≤ n) (h2 : n ≤ (l.length : Int) - from_) (ht : t < l.length) : (clT l from_ n).loadE true 1 t = if from_ ≤ t ∧ (t : Int) < from_ + n then 14 else 0 := by
  rw [Me.loadE, if_neg (by simp [cl_pt ht]), Int.toNat_natCast, clT_st h0 h1 h2 ht]
  split <;> simp
theorem cl_lw (h0 : 0 ≤ from_) (h1 : 0 ≤ n) (h2 : n ≤ (l.length : Int) - from_) (ht : t < l.length) (hc : ¬ (from_ ≤ t ∧ (t : Int) < from_ + n)) (x : Wd) (hx : l[t]? = some x) : (clT l from_ n).loadW true 1 t = ⟨x.p, x.a, x.n⟩ := by
  rw [Me.loadW, cl_le h0 h1 h2 ht, if_neg hc, if_pos rfl, Int.toNat_natCast]
  simp [clT, Me.at, hx]
theorem cl_lw0 (h0 : 0 ≤ from_) (h1 : 0 ≤ n) (h2 : n ≤ (l.length : Int) - from_) (ht : t < l.length) (hc : from_ ≤ t ∧ (t : Int) < from_ + n) : (clT l from_ n).loadW true 1 t = ⟨false, 0, 0⟩ := by
  rw [Me.loadW, cl_le h0 h1 h2 ht, if_pos hc, if_neg (by decide)]; rfl
end

set_option maxRecDepth 100000 in
set_option maxHeartbeats 1000000 in
theorem memClear_out (l : List Wd) (A : Option Addr) (c : Nat) (from_ n : Int) (W : World) (hm : l.length ≤ maxLen) (h : 40 < l.length ∨ from_ < 0 ∨ n < 0 ∨ (l.length : Int) < from_ ∨ (l.length : Int) - from_ < n) :
    Calls Try.prog 4 #[.slice A l.length c, .int .i64 from_, .int .i64 n] W fun e W' => e = .returned (.bool true) ∧ Below W.heap.size W W' := by
  have C1 := Lib.hid (works_any W)
  have H := Lib.hid h
  clear h
  unfold maxLen at hm
  go_enter Try.func4, Try.ntmps4
  go_wp2_with fail
  refine C1.out.mono ?_
  rintro e w1 ⟨rfl, b1⟩
  go_wp2_with fail
  all_goals first
    | (exfalso; have := H.out; omega)
    | (go_ret; exact ⟨rfl, stepB (Below.refl _ _) (Nat.le_refl _) b1⟩)

set_option maxRecDepth 100000 in
set_option maxHeartbeats 2000000 in
theorem memClear_in (l : List Wd) (A : Option Addr) (c : Nat) (from_ n : Int) (W : World) (hr : InW W A l) (h1 : l.length ≤ 40) (h2 : 0 ≤ from_) (h3 : 0 ≤ n) (h4 : n ≤ (l.length : Int) - from_) :
    Calls Try.prog 4 #[.slice A l.length c, .int .i64 from_, .int .i64 n] W fun e W' => e = .returned (.bool true) ∧ Below W.heap.size W W' := by
  have HR := Lib.hid hr
  clear hr
  go_enter Try.func4, Try.ntmps4
  go_wp2_with fail
  refine (works_any _).mono ?_
  rintro e w1 ⟨rfl, b1⟩
  have z1 : Below W.heap.size W w1 := stepB (by repeat (first | exact Below.refl _ _ | (refine allocB ?_ (Nat.le_refl _) _) | apply Below.drew | (refine drewNB ?_ _))) (Nat.le_refl _) b1
  go_wp2_with fail
  refine (Mem.new _ 100).mono ?_
  rintro e w2 ⟨rfl, m2, b2, _⟩
  have z2 : Below W.heap.size W w2 := stepB (by repeat (first | exact z1 | (refine allocB ?_ (Nat.le_refl _) _) | apply Below.drew | (refine drewNB ?_ _))) (Nat.le_refl _) b2
  go_wp2_with fail
  refine (Mem.makeX (by repeat (first | exact m2 | apply Mem.alloc | apply Mem.drew | apply Mem.drewN)) (by decide) true 1 0 0 (clS l 0) (cl_w1 h1) (cl_e1 h1) (cl_1 h1)).mono ?_
  rintro e w3 ⟨rfl, ⟨F3, m3, q3⟩, k3⟩
  have z3 : Below W.heap.size W w3 := keptB (fun k h => by have := (m2.low k h).1; have := z1.size; omega) (by repeat (first | exact z2 | (refine allocB ?_ (Nat.le_refl _) _) | apply Below.drew | (refine drewNB ?_ _))) (Nat.le_refl _) k3
  have np : ¬ F3 w3.heap.size := fun h => Nat.lt_irrefl _ (m3.low _ h).2
  have bp : Hid (Box (w3.alloc (.cells #[.bool true, .int .i64 1, .int .i64 0] 23)) w3.heap.size #[.bool true, .int .i64 1, .int .i64 0]) := Lib.hid (Box.new _ _)
  have mp := m3.alloc (.cells #[.bool true, .int .i64 1, .int .i64 0] 23)
  have zp := allocB z3 (Nat.le_refl _) (.cells #[.bool true, .int .i64 1, .int .i64 0] 23)
  go_wp2_with fail
  go_loopw [12] (fun i wr => ∃ t : Nat, t ≤ l.length ∧ i = .int .i64 t ∧ Mem w1.heap.size wr w1.heap.size F3 (clS l t) ∧ Hid (Box wr w3.heap.size #[.bool true, .int .i64 1, .int .i64 0]) ∧ Below W.heap.size W wr) (fun i _ => l.length - (intOf i).toNat)
  case atStart => exact ⟨0, Nat.zero_le _, rfl, mp, bp, zp⟩
  case round =>
    obtain ⟨t, ht, rfl, m, b, z⟩ := hrel
    clear mp bp zp
    by_cases hlt : t < l.length
    · skip
      obtain ⟨ab, off, rfl, hab, hcells⟩ := HR.out (by omega)
      obtain ⟨x, hx⟩ : ∃ x, l[t]? = some x := ⟨_, List.getElem?_eq_getElem hlt⟩
      obtain ⟨x0, x1, x2⟩ := hcells t x hx
      have HX := Lib.hid hx
      have HX0 := Lib.hid x0
      have HX1 := Lib.hid x1
      have HX2 := Lib.hid x2
      clear hcells hx x0 x1 x2
      obtain ⟨lp, hp, fp⟩ := b.out.see
      go_wp2_with fail
      refine (off_yesX _ t (by unfold wrap64; omega)).mono ?_
      rintro e w4 ⟨rfl, b4⟩
      have z4 : Below W.heap.size W w4 := stepB (by repeat (first | exact z | (refine allocB ?_ (Nat.le_refl _) _) | apply Below.drew | (refine drewNB ?_ _))) (Nat.le_refl _) b4
      have m4 := Mem.below (by repeat (first | exact m | apply Mem.alloc | apply Mem.drew | apply Mem.drewN)) b4
      have p_4 : Hid (Box w4 w3.heap.size #[.bool true, .int .i64 1, .int .i64 0]) := Lib.hid (Box.below (by repeat (first | exact Box.newAt (by simp; done) | exact b.out | exact Box.newAt rfl | apply Box.alloc | apply Box.drew | apply Box.drewN)) b4)
      clear b lp hp fp
      obtain ⟨lp, hp, fp⟩ := p_4.out.see
      have y0 : w4.cell? ⟨ab, off + t * 3, none⟩ = some (.bool x.p) := (z4.cell (p := ⟨ab, off + t * 3, none⟩) hab).trans HX0.out
      have y1 : w4.cell? ⟨ab, off + t * 3 + 1, none⟩ = some (.int .i64 x.a) := (z4.cell (p := ⟨ab, off + t * 3 + 1, none⟩) hab).trans HX1.out
      have y2 : w4.cell? ⟨ab, off + t * 3 + 2, none⟩ = some (.int .i64 x.n) := (z4.cell (p := ⟨ab, off + t * 3 + 2, none⟩) hab).trans HX2.out
      have hab4 : ab < w4.heap.size := by have := z4.size; omega
      have hti : (0 : Int) ≤ (t : Int) := by omega
      have htl : (t : Int) < (l.length : Int) := by omega
      have nq_5 : ¬ F3 w4.heap.size := fun h => Nat.lt_irrefl _ (m4.low _ h).2
      go_wp2_with fail
      go_region_with (go_at_call 15; refine (Mem.storeX (by repeat (first | exact m4 | apply Mem.alloc | apply Mem.drew | apply Mem.drewN)) 0 (clS l (t + 1)) (cl_s hlt x HX.out) (cl_p hlt)).mono ?_; rintro e w5 ⟨rfl, m5, k5⟩)
      all_goals
        have z5 : Below W.heap.size W w5 := keptB (fun k h => by have := (m4.low k h).1; have := z1.size; omega) (by repeat (first | exact z4 | (refine allocB ?_ (Nat.le_refl _) _) | apply Below.drew | (refine drewNB ?_ _))) (Nat.le_refl _) k5
        have p_5 : Hid (Box w5 w3.heap.size #[.bool true, .int .i64 1, .int .i64 0]) := Lib.hid (Box.kept (by repeat (first | exact Box.newAt (by simp; done) | exact p_4.out | exact Box.newAt rfl | apply Box.alloc | apply Box.drew | apply Box.drewN)) k5 np)
        clear p_4 lp hp fp
        obtain ⟨lp, hp, fp⟩ := p_5.out.see
        have q_5 : Hid (Box w5 w4.heap.size #[.bool true, .int .i64 1, .int .i64 t]) := Lib.hid (Box.kept (by repeat (first | exact Box.newAt (by simp; done) | exact Box.newAt rfl | apply Box.alloc | apply Box.drew | apply Box.drewN)) k5 nq_5)
        obtain ⟨lq, hq, fq⟩ := q_5.out.see
        go_wp2
        go_roundw
        case rel => exact ⟨t + 1, by omega, by go_num, m5, p_5, z5⟩
        case measure => simp [intOf]; omega
    · obtain rfl : t = l.length := by omega
      clear ht hlt
      obtain ⟨lp, hp, fp⟩ := b.out.see
      go_wp2_with fail
      refine (off_yesX _ from_ (by unfold wrap64; omega)).mono ?_
      rintro e w4 ⟨rfl, b4⟩
      have z4 : Below W.heap.size W w4 := stepB (by repeat (first | exact z | (refine allocB ?_ (Nat.le_refl _) _) | apply Below.drew | (refine drewNB ?_ _))) (Nat.le_refl _) b4
      have m4 := Mem.below (by repeat (first | exact m | apply Mem.alloc | apply Mem.drew | apply Mem.drewN)) b4
      have p_4 : Hid (Box w4 w3.heap.size #[.bool true, .int .i64 1, .int .i64 0]) := Lib.hid (Box.below (by repeat (first | exact Box.newAt (by simp; done) | exact b.out | exact Box.newAt rfl | apply Box.alloc | apply Box.drew | apply Box.drewN)) b4)
      clear b lp hp fp
      obtain ⟨lp, hp, fp⟩ := p_4.out.see
      have nq_5 : ¬ F3 w4.heap.size := fun h => Nat.lt_irrefl _ (m4.low _ h).2
      go_wp2_with fail
      refine (Mem.clearX (by repeat (first | exact m4 | apply Mem.alloc | apply Mem.drew | apply Mem.drewN)) 0 (clT l from_ n) (cl_c h2 h3 h4) (cl_pc h2 h3 h4)).mono ?_
      rintro e w5 ⟨rfl, m5, k5⟩
      have z5 : Below W.heap.size W w5 := keptB (fun k h => by have := (m4.low k h).1; have := z1.size; omega) (by repeat (first | exact z4 | (refine allocB ?_ (Nat.le_refl _) _) | apply Below.drew | (refine drewNB ?_ _))) (Nat.le_refl _) k5
      have p_5 : Hid (Box w5 w3.heap.size #[.bool true, .int .i64 1, .int .i64 0]) := Lib.hid (Box.kept (by repeat (first | exact Box.newAt (by simp; done) | exact p_4.out | exact Box.newAt rfl | apply Box.alloc | apply Box.drew | apply Box.drewN)) k5 np)
      clear p_4 lp hp fp
      obtain ⟨lp, hp, fp⟩ := p_5.out.see
      have q_5 : Hid (Box w5 w4.heap.size #[.bool true, .int .i64 1, .int .i64 from_]) := Lib.hid (Box.kept (by repeat (first | exact Box.newAt (by simp; done) | exact Box.newAt rfl | apply Box.alloc | apply Box.drew | apply Box.drewN)) k5 nq_5)
      obtain ⟨lq, hq, fq⟩ := q_5.out.see
      clear q_5 lq hq fq
      have bp := p_5
      have mp := m5
      have zp := z5
      clear p_5 lp hp fp m5 z5 m4 z4 b4 k5 m z
      go_wp2_with fail
      go_loopw [17] (fun i wr => ∃ t : Nat, t ≤ l.length ∧ i = .int .i64 t ∧ Mem w1.heap.size wr w1.heap.size F3 (clT l from_ n) ∧ Hid (Box wr w3.heap.size #[.bool true, .int .i64 1, .int .i64 0]) ∧ Below W.heap.size W wr) (fun i _ => l.length - (intOf i).toNat)
      case atStart => exact ⟨0, Nat.zero_le _, rfl, mp, bp, zp⟩
      case round =>
        obtain ⟨t, ht, rfl, m, b, z⟩ := hrel
        clear mp bp zp
        by_cases hlt : t < l.length
        · skip
          obtain ⟨ab, off, rfl, hab, hcells⟩ := HR.out (by omega)
          obtain ⟨x, hx⟩ : ∃ x, l[t]? = some x := ⟨_, List.getElem?_eq_getElem hlt⟩
          obtain ⟨x0, x1, x2⟩ := hcells t x hx
          have HX := Lib.hid hx
          have HX0 := Lib.hid x0
          have HX1 := Lib.hid x1
          have HX2 := Lib.hid x2
          clear hcells hx x0 x1 x2
          by_cases hin : from_ ≤ t ∧ (t : Int) < from_ + n
          · skip
            obtain ⟨lp, hp, fp⟩ := b.out.see
            go_wp2_with fail
            refine (off_yesX _ t (by unfold wrap64; omega)).mono ?_
            rintro e w4 ⟨rfl, b4⟩
            have z4 : Below W.heap.size W w4 := stepB (by repeat (first | exact z | (refine allocB ?_ (Nat.le_refl _) _) | apply Below.drew | (refine drewNB ?_ _))) (Nat.le_refl _) b4
            have m4 := Mem.below (by repeat (first | exact m | apply Mem.alloc | apply Mem.drew | apply Mem.drewN)) b4
            have p_4 : Hid (Box w4 w3.heap.size #[.bool true, .int .i64 1, .int .i64 0]) := Lib.hid (Box.below (by repeat (first | exact Box.newAt (by simp; done) | exact b.out | exact Box.newAt rfl | apply Box.alloc | apply Box.drew | apply Box.drewN)) b4)
            clear b lp hp fp
            obtain ⟨lp, hp, fp⟩ := p_4.out.see
            have nq_5 : ¬ F3 w4.heap.size := fun h => Nat.lt_irrefl _ (m4.low _ h).2
            go_wp2_with fail
            refine (Mem.loadX (by repeat (first | exact m4 | apply Mem.alloc | apply Mem.drew | apply Mem.drewN)) false 0 0 14 (cl_lw0 h2 h3 h4 hlt hin) (by rw [cl_le h2 h3 h4 hlt, if_pos hin])).mono ?_
            rintro e w5 ⟨rfl, b5⟩
            have z5 : Below W.heap.size W w5 := stepB (by repeat (first | exact z4 | (refine allocB ?_ (Nat.le_refl _) _) | apply Below.drew | (refine drewNB ?_ _))) (Nat.le_refl _) b5
            have m5 := Mem.below (by repeat (first | exact m4 | apply Mem.alloc | apply Mem.drew | apply Mem.drewN)) b5
            have p_5 : Hid (Box w5 w3.heap.size #[.bool true, .int .i64 1, .int .i64 0]) := Lib.hid (Box.below (by repeat (first | exact Box.newAt (by simp; done) | exact p_4.out | exact Box.newAt rfl | apply Box.alloc | apply Box.drew | apply Box.drewN)) b5)
            clear p_4 lp hp fp
            obtain ⟨lp, hp, fp⟩ := p_5.out.see
            have q_5 : Hid (Box w5 w4.heap.size #[.bool true, .int .i64 1, .int .i64 t]) := Lib.hid (Box.below (by repeat (first | exact Box.newAt (by simp; done) | exact Box.newAt rfl | apply Box.alloc | apply Box.drew | apply Box.drewN)) b5)
            obtain ⟨lq, hq, fq⟩ := q_5.out.see
            clear q_5 lq hq fq
            have y0 : w5.cell? ⟨ab, off + t * 3, none⟩ = some (.bool x.p) := (z5.cell (p := ⟨ab, off + t * 3, none⟩) hab).trans HX0.out
            have y1 : w5.cell? ⟨ab, off + t * 3 + 1, none⟩ = some (.int .i64 x.a) := (z5.cell (p := ⟨ab, off + t * 3 + 1, none⟩) hab).trans HX1.out
            have y2 : w5.cell? ⟨ab, off + t * 3 + 2, none⟩ = some (.int .i64 x.n) := (z5.cell (p := ⟨ab, off + t * 3 + 2, none⟩) hab).trans HX2.out
            have hab5 : ab < w5.heap.size := by have := z5.size; omega
            have hti : (0 : Int) ≤ (t : Int) := by omega
            have htl : (t : Int) < (l.length : Int) := by omega
            have g1 : from_ ≤ (t : Int) := hin.1
            have g2 : (t : Int) < from_ + n := hin.2
            have g3 : decide ((t : Int) < from_) = false := by simp; omega
            have g4 : decide (from_ + n ≤ (t : Int)) = false := by simp; omega
            clear hin
            go_wp2
            go_quiet (fail)
            go_wp2
            go_roundw
            case rel => exact ⟨t + 1, by omega, by go_num, by repeat (first | exact m5 | apply Mem.alloc | apply Mem.drew | apply Mem.drewN), Lib.hid (by repeat (first | exact Box.newAt (by simp; done) | exact p_5.out | exact Box.newAt rfl | apply Box.alloc | apply Box.drew | apply Box.drewN)), by repeat (first | exact z5 | (refine allocB ?_ (Nat.le_refl _) _) | apply Below.drew | (refine drewNB ?_ _))⟩
            case measure => simp [intOf]; omega
          · skip
            obtain ⟨lp, hp, fp⟩ := b.out.see
            go_wp2_with fail
            refine (off_yesX _ t (by unfold wrap64; omega)).mono ?_
            rintro e w4 ⟨rfl, b4⟩
            have z4 : Below W.heap.size W w4 := stepB (by repeat (first | exact z | (refine allocB ?_ (Nat.le_refl _) _) | apply Below.drew | (refine drewNB ?_ _))) (Nat.le_refl _) b4
            have m4 := Mem.below (by repeat (first | exact m | apply Mem.alloc | apply Mem.drew | apply Mem.drewN)) b4
            have p_4 : Hid (Box w4 w3.heap.size #[.bool true, .int .i64 1, .int .i64 0]) := Lib.hid (Box.below (by repeat (first | exact Box.newAt (by simp; done) | exact b.out | exact Box.newAt rfl | apply Box.alloc | apply Box.drew | apply Box.drewN)) b4)
            clear b lp hp fp
            obtain ⟨lp, hp, fp⟩ := p_4.out.see
            have nq_5 : ¬ F3 w4.heap.size := fun h => Nat.lt_irrefl _ (m4.low _ h).2
            go_wp2_with fail
            refine (Mem.loadX (by repeat (first | exact m4 | apply Mem.alloc | apply Mem.drew | apply Mem.drewN)) x.p x.a x.n 0 (cl_lw h2 h3 h4 hlt hin x HX.out) (by rw [cl_le h2 h3 h4 hlt, if_neg hin])).mono ?_
            rintro e w5 ⟨rfl, b5⟩
            have z5 : Below W.heap.size W w5 := stepB (by repeat (first | exact z4 | (refine allocB ?_ (Nat.le_refl _) _) | apply Below.drew | (refine drewNB ?_ _))) (Nat.le_refl _) b5
            have m5 := Mem.below (by repeat (first | exact m4 | apply Mem.alloc | apply Mem.drew | apply Mem.drewN)) b5
            have p_5 : Hid (Box w5 w3.heap.size #[.bool true, .int .i64 1, .int .i64 0]) := Lib.hid (Box.below (by repeat (first | exact Box.newAt (by simp; done) | exact p_4.out | exact Box.newAt rfl | apply Box.alloc | apply Box.drew | apply Box.drewN)) b5)
            clear p_4 lp hp fp
            obtain ⟨lp, hp, fp⟩ := p_5.out.see
            have q_5 : Hid (Box w5 w4.heap.size #[.bool true, .int .i64 1, .int .i64 t]) := Lib.hid (Box.below (by repeat (first | exact Box.newAt (by simp; done) | exact Box.newAt rfl | apply Box.alloc | apply Box.drew | apply Box.drewN)) b5)
            obtain ⟨lq, hq, fq⟩ := q_5.out.see
            clear q_5 lq hq fq
            have y0 : w5.cell? ⟨ab, off + t * 3, none⟩ = some (.bool x.p) := (z5.cell (p := ⟨ab, off + t * 3, none⟩) hab).trans HX0.out
            have y1 : w5.cell? ⟨ab, off + t * 3 + 1, none⟩ = some (.int .i64 x.a) := (z5.cell (p := ⟨ab, off + t * 3 + 1, none⟩) hab).trans HX1.out
            have y2 : w5.cell? ⟨ab, off + t * 3 + 2, none⟩ = some (.int .i64 x.n) := (z5.cell (p := ⟨ab, off + t * 3 + 2, none⟩) hab).trans HX2.out
            have hab5 : ab < w5.heap.size := by have := z5.size; omega
            have hti : (0 : Int) ≤ (t : Int) := by omega
            have htl : (t : Int) < (l.length : Int) := by omega
            by_cases g1 : (t : Int) < from_
            · skip
              have g2 : decide (from_ ≤ (t : Int)) = false := by simp; omega
              clear hin
              go_wp2
              go_quiet (fail)
              go_wp2
              go_roundw
              case rel => exact ⟨t + 1, by omega, by go_num, by repeat (first | exact m5 | apply Mem.alloc | apply Mem.drew | apply Mem.drewN), Lib.hid (by repeat (first | exact Box.newAt (by simp; done) | exact p_5.out | exact Box.newAt rfl | apply Box.alloc | apply Box.drew | apply Box.drewN)), by repeat (first | exact z5 | (refine allocB ?_ (Nat.le_refl _) _) | apply Below.drew | (refine drewNB ?_ _))⟩
              case measure => simp [intOf]; omega
            · skip
              have g2 : decide ((t : Int) < from_) = false := by simp; omega
              have g3 : from_ ≤ (t : Int) := by omega
              have g4 : from_ + n ≤ (t : Int) := by omega
              have g5 : decide ((t : Int) < from_ + n) = false := by simp; omega
              clear hin
              go_wp2
              go_quiet (fail)
              go_wp2
              go_roundw
              case rel => exact ⟨t + 1, by omega, by go_num, by repeat (first | exact m5 | apply Mem.alloc | apply Mem.drew | apply Mem.drewN), Lib.hid (by repeat (first | exact Box.newAt (by simp; done) | exact p_5.out | exact Box.newAt rfl | apply Box.alloc | apply Box.drew | apply Box.drewN)), by repeat (first | exact z5 | (refine allocB ?_ (Nat.le_refl _) _) | apply Below.drew | (refine drewNB ?_ _))⟩
              case measure => simp [intOf]; omega
        · obtain rfl : t = l.length := by omega
          clear ht hlt
          go_wp2_with fail
          refine (Mem.words (by repeat (first | exact m | apply Mem.alloc | apply Mem.drew | apply Mem.drewN))).mono ?_
          rintro e w4 ⟨rfl, b4⟩
          have z4 : Below W.heap.size W w4 := stepB (by repeat (first | exact z | (refine allocB ?_ (Nat.le_refl _) _) | apply Below.drew | (refine drewNB ?_ _))) (Nat.le_refl _) b4
          have m4 := Mem.below (by repeat (first | exact m | apply Mem.alloc | apply Mem.drew | apply Mem.drewN)) b4
          go_wp2_with fail
          refine (Mem.live (by repeat (first | exact m4 | apply Mem.alloc | apply Mem.drew | apply Mem.drewN))).mono ?_
          rintro e w5 ⟨rfl, b5⟩
          have z5 : Below W.heap.size W w5 := stepB (by repeat (first | exact z4 | (refine allocB ?_ (Nat.le_refl _) _) | apply Below.drew | (refine drewNB ?_ _))) (Nat.le_refl _) b5
          have m5 := Mem.below (by repeat (first | exact m4 | apply Mem.alloc | apply Mem.drew | apply Mem.drewN)) b5
          go_wp2
          go_ret
          exact ⟨rfl, z5⟩

theorem memClear_walk (W : World) (l : List Wd) (A : Option Addr) (c : Nat) (hm : l.length ≤ maxLen) (hr : InW W A l) (from_ n : Int) :
    Calls Try.prog 4 #[.slice A l.length c, .int .i64 from_, .int .i64 n] W fun e W' => e = .returned (.bool true) ∧ Below W.heap.size W W' := by
  by_cases h : 40 < l.length ∨ from_ < 0 ∨ n < 0 ∨ (l.length : Int) < from_ ∨ (l.length : Int) - from_ < n
  · exact memClear_out l A c from_ n W hm h
  · exact memClear_in l A c from_ n W hr (by omega) (by omega) (by omega) (by omega)

end Go.Proofs.Ytkgiddpeaebdfaa
