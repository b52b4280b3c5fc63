/- The document's memory: drop (a word is no more). -/
import Derived.Test.YtkgiddpeaebdfaaR2
import Derived.Test.YtkgiddpeaebdfaaW6
namespace Go.Proofs.Ytkgiddpeaebdfaa
open Go.RowKit

def ckeep (l : List Ce) (a n : Int) : List Ce := l.filter fun x => !(x.a == a && x.n == n)
def Rf.drop (R : Rf) (a n : Int) : Rf := { R with ce := ckeep R.ce a n }
theorem Try.info72 : (Try.prog.info? 72).map (fun i => (i.zero, i.size, i.bytes)) = some (some (.agg #[.int .i64 0, .int .i64 0, .bool false, .int .i64 0, .int .i64 0]), 5, 40) := by kernel_rfl
theorem Try.info57 : (Try.prog.info? 57).map (fun i => (i.zero, i.size, i.bytes)) = some (some (.agg #[.int .i64 0, .bool false]), 2, 16) := by kernel_rfl

theorem or_base {w : World} {base base' : Nat} {e : TypeId} {size n : Nat} {v : Value} {xs : List Value} (h : w.ownsRow base e size v n xs) (hb : base' ≤ base) : w.ownsRow base' e size v n xs := by
  obtain ⟨h1, h2⟩ := h
  refine ⟨h1, ?_⟩
  rcases h2 with h2 | ⟨g, cap, cur, hv, hg, r⟩
  · exact .inl h2
  · exact .inr ⟨g, cap, cur, hv, Nat.le_trans hb hg, r⟩
theorem or_below {w w1 : World} {base : Nat} {e : TypeId} {size n : Nat} {v : Value} {xs : List Value} (h : w.ownsRow base e size v n xs) (hb : Below w.heap.size w w1) : w1.ownsRow base e size v n xs :=
  or_move h (fun k hk => hb.block k (blk_lt (or_lt h k hk).2.choose_spec))

section
variable {B : Nat} {W W' : World} {g : Nat} {F : Nat → Prop} {R : Rf} {v1 v2 : Value}

/-- Another row of what is stored. -/
theorem RefAt.setC (h : RefAt B W g F R v1 v2) {v : Value} {ce : List Ce} (hr : W.ownsRow B 72 5 v ce.length (cec ce)) (hl : ce.length ≤ 1000000) :
    RefAt B (W.setCell ⟨g, 2, none⟩ v) g (fun k => F k ∨ v.ownBlock = some k) { R with ce := ce } v1 v := by
  have hne : ∀ k e cells, W.heap[k]? = some (.cells cells e (0, 0)) → e ≠ 55 → k ≠ g := fun k e cells hk he q => by
    subst q
    have := hk.symm.trans h.hg
    injection this with this
    injection this with _ this
    exact he this
  refine ⟨?_, .inl h.fg, ?_, ?_, fun k hk => .inl (h.fb k hk), fun k hk => .inr hk, ?_, h.room0, ⟨h.few.1, hl, h.few.2.2⟩⟩
  · have := blk_set h.hg 2 v
    simpa using this
  · refine or_move h.rb (fun k hk => Below.heap_setCell _ _ _ _ ?_)
    obtain ⟨_, cells, hc⟩ := or_lt h.rb k hk
    exact hne k 57 cells hc (by decide)
  · refine or_move hr (fun k hk => Below.heap_setCell _ _ _ _ ?_)
    obtain ⟨_, cells, hc⟩ := or_lt hr k hk
    exact hne k 72 cells hc (by decide)
  · intro k hk
    have hs : (W.setCell ⟨g, 2, none⟩ v).heap.size = W.heap.size := by simp [World.setCell]
    rw [hs]
    rcases hk with hk | hk
    · exact h.low k hk
    · obtain ⟨hb, cells, hc⟩ := or_lt hr k hk
      exact ⟨hb, blk_lt hc⟩

structure Dr (B : Nat) (W wr : World) (g : Nat) (F : Nat → Prop) (R : Rf) (v1 v2 : Value) (a n : Int) (t : Nat) (lv : Value) : Prop where
  ref : RefAt B wr g F R v1 v2
  row : wr.ownsRow W.heap.size 72 5 lv (ckeep (R.ce.take t) a n).length (cec (ckeep (R.ce.take t) a n))
  old : Below W.heap.size W wr

theorem Dr.below {wr w' : World} {a n : Int} {t : Nat} {lv : Value} (h : Dr B W wr g F R v1 v2 a n t lv) (hb : Below wr.heap.size wr w') : Dr B W w' g F R v1 v2 a n t lv :=
  ⟨h.ref.below hb, or_below h.row hb, h.old.trans (hb.mono h.old.size)⟩
theorem Dr.push {wr X w1 : World} {a n : Int} {t : Nat} {lv v : Value} {x : Ce} (h : Dr B W X g F R v1 v2 a n t lv) (hx : R.ce[t]? = some x) (hk : ¬ (x.a = a ∧ x.n = n)) (hF : ∀ k, F k → k < W.heap.size)
    (own : w1.ownsRow W.heap.size 72 5 v ((ckeep (R.ce.take t) a n).length + 1) (cec (ckeep (R.ce.take t) a n) ++ [.int .i64 x.a, .int .i64 x.n, .bool x.w.p, .int .i64 x.w.a, .int .i64 x.w.n]))
    (grow : X.grownBy w1 lv.ownBlock) (hw : wr = w1) : Dr B W wr g F R v1 v2 a n (t + 1) v := by
  subst hw
  have e : ckeep (R.ce.take (t + 1)) a n = ckeep (R.ce.take t) a n ++ [x] := by
    rw [take_snoc hx, ckeep, List.filter_append]
    show ckeep (R.ce.take t) a n ++ _ = _
    congr 1
    have : (!(x.a == a && x.n == n)) = true := by
      simp only [Bool.not_eq_true', Bool.and_eq_false_iff, beq_eq_false_iff_ne]
      by_cases e : x.a = a
      · exact .inr (fun e2 => hk ⟨e, e2⟩)
      · exact .inl e
    simp [List.filter, this]
  refine ⟨h.ref.move grow.size (fun k hk' => grow.block k (h.ref.low k hk').2 (fun e' => by have := (or_lt h.row k e'.symm).1; have := hF k hk'; omega)), ?_, h.old.grown grow (Nat.le_trans (Nat.le_refl _) h.old.size) (fun k hk => (or_lt h.row k hk).1)⟩
  rw [e, cec_append, List.length_append]
  exact own
theorem Dr.skip {wr : World} {a n : Int} {t : Nat} {lv : Value} {x : Ce} (h : Dr B W wr g F R v1 v2 a n t lv) (hx : R.ce[t]? = some x) (hk : x.a = a ∧ x.n = n) : Dr B W wr g F R v1 v2 a n (t + 1) lv := by
  have e : ckeep (R.ce.take (t + 1)) a n = ckeep (R.ce.take t) a n := by
    rw [take_snoc hx, ckeep, List.filter_append]
    simp [ckeep, List.filter, hk.1, hk.2]
  exact ⟨h.ref, by rw [e]; exact h.row, h.old⟩

set_option maxHeartbeats 1000000 in
theorem rdrop_any (h : RefAt B W g F R v1 v2) (a n : Int) :
    Calls Try.prog 38 #[.pointer (some ⟨g, 0, none⟩), .int .i64 a, .int .i64 n] W fun e W' =>
      e = .returned (.tuple #[]) ∧ (∃ v, RefAt B W' g (fun k => F k ∨ v.ownBlock = some k) (R.drop a n) v1 v ∧ ∀ k, v.ownBlock = some k → W.heap.size ≤ k) ∧ Kept F W W' := by
  have few := h.few.2.1
  have hF := Lib.hid (fun k hk => (h.low k hk).2)
  have fg := Lib.hid h.fg
  have hBg := (h.low g h.fg).1
  have hgl := (h.low g h.fg).2
  have D0 := Lib.hid (show Dr B W W g F R v1 v2 a n 0 (.slice none 0 0) from ⟨h, by simpa [cec, ckeep] using World.ownsRow_nil W W.heap.size 72 5, Below.refl _ _⟩)
  have HW := Lib.hid (info_parts Try.info72)
  obtain ⟨A, cap, rfl⟩ := or_slice h.rc
  clear h
  go_enter Try.func38, Try.ntmps38
  go_wp2_with fail
  go_loopw [6, 7] (fun lv i wr => ∃ t : Nat, t ≤ R.ce.length ∧ i = .int .i64 t ∧ Hid (Dr B W wr g F R v1 (.slice A R.ce.length cap) a n t lv)) (fun _ i _ => R.ce.length - (intOf i).toNat)
  case atStart => exact ⟨0, Nat.zero_le _, rfl, D0⟩
  case round =>
    obtain ⟨t, ht, rfl, d⟩ := hrel
    clear D0
    obtain ⟨c0, c1, c2, c3, c4⟩ := d.out.ref.see
    by_cases hlt : t < R.ce.length
    · obtain ⟨gb, rfl, hb, hgl2, _, hcells⟩ := or_at d.out.ref.rc (by omega)
      obtain ⟨x, hx⟩ : ∃ x, R.ce[t]? = some x := ⟨_, List.getElem?_eq_getElem hlt⟩
      obtain ⟨u0, u1, u2, u3, u4⟩ := cec_at R.ce t x hx
      have x0 := hcells _ _ u0
      have x1 := hcells _ _ u1
      have x2 := hcells _ _ u2
      have x3 := hcells _ _ u3
      have x4 := hcells _ _ u4
      have HX := Lib.hid hx
      clear hcells u0 u1 u2 u3 u4 hx
      have hti : (0 : Int) ≤ (t : Int) := by omega
      have htl : (t : Int) < (R.ce.length : Int) := by omega
      have hfl : (ckeep (R.ce.take t) a n).length ≤ 1000000 := by
        have h1 : (ckeep (R.ce.take t) a n).length ≤ (R.ce.take t).length := List.length_filter_le _ _
        have h2 : (R.ce.take t).length ≤ R.ce.length := by simp; omega
        omega
      by_cases hm : x.a = a ∧ x.n = n
      · have D2 := Lib.hid (d.out.skip HX.out hm)
        obtain ⟨m1, m2⟩ := hm
        have e1 : (x.a != a) = false := by simpa using m1
        have e2 : (x.n != n) = false := by simpa using m2
        clear m1 m2
        go_wp2
        go_roundw
        case rel => exact ⟨t + 1, by omega, by go_num, D2⟩
        case measure => simp [intOf]; omega
      · have HM := Lib.hid hm
        obtain ⟨i0, hi0, hz0, hz1, hz2⟩ := HW.out
        obtain ⟨lA, lc, rfl⟩ := or_slice d.out.row
        by_cases m1 : x.a = a
        · have m2 : ¬ x.n = n := fun q => HM.out ⟨m1, q⟩
          have e1 : (x.a != a) = false := by simpa using m1
          have e2 : (x.n != n) = true := by simpa using m2
          clear m1 m2 hm
          go_wp2_with (first
            | (at_builtin; refine wpList_append_own_at _ rfl (.tmp 39) (.tmp 47) 53 rfl W.heap.size 72 i0 _ 5 40 Try.underlying53 hi0 hz0 hz1 hz2 rfl (by decide) _ (ckeep (R.ce.take t) a n).length (cec (ckeep (R.ce.take t) a n)) rfl ?_ _ 1 1 [.int .i64 x.a, .int .i64 x.n, .bool x.w.p, .int .i64 x.w.a, .int .i64 x.w.n] rfl rfl ?_ ?_ ?_ ?_ ?_ ?_
               (exact or_below d.out.row (by repeat (first | exact Below.refl _ _ | apply below_alloc | apply below_drew | (refine below_drewN ?_ _))))
               (exact cell_row (by simp) _ _)
               (intro u hu; simp at hu; rcases hu with rfl | rfl | rfl | rfl | rfl <;> rfl)
               (simp only [maxLen]; omega)
               omega
               (have := d.out.old.size; simp; omega)
               (intro v4 w4 own4 grow4 nil4 at4
                clear nil4 at4
                have P4 := fun w' hw' => Dr.push (wr := w') (d.out.below (by repeat (first | exact Below.refl _ _ | apply below_alloc | apply below_drew | (refine below_drewN ?_ _)))) HX.out HM.out hF.out own4 grow4 hw'
                have P4 := Lib.hid P4
                clear own4 grow4)))
          go_roundw
          case rel => exact ⟨t + 1, by omega, by go_num, Lib.hid (P4.out _ rfl)⟩
          case measure => simp [intOf]; omega
        · have e1 : (x.a != a) = true := by simpa using m1
          clear m1 hm
          go_wp2_with (first
            | (at_builtin; refine wpList_append_own_at _ rfl (.tmp 39) (.tmp 47) 53 rfl W.heap.size 72 i0 _ 5 40 Try.underlying53 hi0 hz0 hz1 hz2 rfl (by decide) _ (ckeep (R.ce.take t) a n).length (cec (ckeep (R.ce.take t) a n)) rfl ?_ _ 1 1 [.int .i64 x.a, .int .i64 x.n, .bool x.w.p, .int .i64 x.w.a, .int .i64 x.w.n] rfl rfl ?_ ?_ ?_ ?_ ?_ ?_
               (exact or_below d.out.row (by repeat (first | exact Below.refl _ _ | apply below_alloc | apply below_drew | (refine below_drewN ?_ _))))
               (exact cell_row (by simp) _ _)
               (intro u hu; simp at hu; rcases hu with rfl | rfl | rfl | rfl | rfl <;> rfl)
               (simp only [maxLen]; omega)
               omega
               (have := d.out.old.size; simp; omega)
               (intro v4 w4 own4 grow4 nil4 at4
                clear nil4 at4
                have P4 := fun w' hw' => Dr.push (wr := w') (d.out.below (by repeat (first | exact Below.refl _ _ | apply below_alloc | apply below_drew | (refine below_drewN ?_ _)))) HX.out HM.out hF.out own4 grow4 hw'
                have P4 := Lib.hid P4
                clear own4 grow4)))
          go_roundw
          case rel => exact ⟨t + 1, by omega, by go_num, Lib.hid (P4.out _ rfl)⟩
          case measure => simp [intOf]; omega
    · obtain rfl : t = R.ce.length := by omega
      have D3 := Lib.hid d.out
      obtain ⟨lA, lc, rfl⟩ := or_slice d.out.row
      clear d
      go_wp2
      refine bodyPost_end (v := .tuple #[]) (by simp only [results, Try.results38] <;> go_simp) rfl ?_
      have hd := D3.out
      have hrow := hd.row
      rw [List.take_length] at hrow
      have hle : (ckeep R.ce a n).length ≤ R.ce.length := List.length_filter_le _ _
      refine ⟨rfl, ⟨_, hd.ref.setC (or_base hrow (by omega)) (by omega), fun k hk => (or_lt hrow k hk).1⟩, ?_⟩
      exact (Kept.of_below hd.old).set2 _ _ fg.out
end
end Go.Proofs.Ytkgiddpeaebdfaa
