/- The document's memory: Store. -/
import Derived.Test.YtkgiddpeaebdfaaR3
namespace Go.Proofs.Ytkgiddpeaebdfaa
open Go.RowKit

def Rf.storeE (R : Rf) (b : Bool) (a n : Int) : Int := if R.check b a ≠ 0 then R.check b a else if R.has a n 1 = false then 13 else 0
def Rf.store (R : Rf) (b : Bool) (a n : Int) (w : Wd) : Rf := if R.storeE b a n = 0 then { R with ce := ckeep R.ce a n ++ [⟨a, n, w⟩] } else R

/-- A memory of the document's, wherever its rows lie. -/
def Ref (B : Nat) (W : World) (g : Nat) (F : Nat → Prop) (R : Rf) : Prop := ∃ v1 v2, RefAt B W g F R v1 v2

section
variable {B : Nat} {W W' : World} {g : Nat} {F : Nat → Prop} {R : Rf} {v1 v2 : Value}

theorem RefAt.far (h : RefAt B W g F R v1 v2) {W1 : World} (grow : W.grownBy W1 v2.ownBlock) {k : Nat} {e : TypeId} {cs : Array Value} (hk : W.heap[k]? = some (Obj.cells cs e (0, 0))) (he : e ≠ 72) : W1.heap[k]? = W.heap[k]? :=
  grow.block k (blk_lt hk) (fun q => by
    obtain ⟨_, c2, hc⟩ := or_lt h.rc k q.symm
    have := hk.symm.trans hc
    injection this with this
    injection this with _ this
    exact he this)
theorem RefAt.farBox (h : RefAt B W g F R v1 v2) {W1 : World} (grow : W.grownBy W1 v2.ownBlock) {x : Nat} {cs : Array Value} (hb : Box W x cs) : Box W1 x cs := (h.far grow hb (by decide)).trans hb
theorem RefAt.farG (h : RefAt B W g F R v1 v2) {W1 : World} (grow : W.grownBy W1 v2.ownBlock) : W1.heap[g]? = some (Obj.cells #[.int .i64 R.room, v1, v2] 55 (0, 0)) := (h.far grow h.hg (by decide)).trans h.hg
theorem RefAt.growC (h : RefAt B W g F R v1 v2) {W1 : World} (grow : W.grownBy W1 v2.ownBlock) {v : Value} {ce : List Ce} (hr : W1.ownsRow B 72 5 v ce.length (cec ce)) (hl : ce.length ≤ 1000000) :
    RefAt B (W1.setCell ⟨g, 2, none⟩ v) g (fun k => F k ∨ v.ownBlock = some k) { R with ce := ce } v1 v := by
  have hg1 := h.farG grow
  have hne : ∀ k (e : TypeId) (cells : Array Value), W1.heap[k]? = some (Obj.cells cells e (0, 0)) → e ≠ 55 → k ≠ g := fun k e cells hk he q => by
    subst q
    have := hk.symm.trans hg1
    injection this with this
    injection this with _ this
    exact he this
  have hb1 : W1.ownsRow B 57 2 v1 R.bl.length (blc R.bl) := or_move h.rb (fun k hk => by
    obtain ⟨_, c, hc⟩ := or_lt h.rb k hk
    exact h.far grow hc (by decide))
  refine ⟨?_, .inl h.fg, ?_, ?_, fun k hk => .inl (h.fb k hk), fun k hk => .inr hk, ?_, h.room0, ⟨h.few.1, hl, h.few.2.2⟩⟩
  · have := blk_set hg1 2 v
    simpa using this
  · refine or_move hb1 (fun k hk => Below.heap_setCell _ _ _ _ ?_)
    obtain ⟨_, cells, hc⟩ := or_lt hb1 k hk
    exact hne k 57 cells hc (by decide)
  · refine or_move hr (fun k hk => Below.heap_setCell _ _ _ _ ?_)
    obtain ⟨_, cells, hc⟩ := or_lt hr k hk
    exact hne k 72 cells hc (by decide)
  · intro k hk
    have hs : (W1.setCell ⟨g, 2, none⟩ v).heap.size = W1.heap.size := by simp [World.setCell]
    rw [hs]
    rcases hk with hk | hk
    · exact ⟨(h.low k hk).1, Nat.lt_of_lt_of_le (h.low k hk).2 grow.size⟩
    · obtain ⟨hb, cells, hc⟩ := or_lt hr k hk
      exact ⟨hb, blk_lt hc⟩

theorem store_last {F1 : Nat → Prop} {W4 W5 : World} {R1 : Rf} {b : Bool} {a n : Int} {w : Wd} {v : Value} (r : RefAt B W4 g F1 R1 v1 v2) (hR : R1 = R.drop a n) (hE : R.storeE b a n = 0) (hl : R.ce.length < 1000000)
    (grow : W4.grownBy W5 v2.ownBlock) (own : W5.ownsRow B 72 5 v ((ckeep R.ce a n).length + 1) (cec (ckeep R.ce a n) ++ [.int .i64 a, .int .i64 n, .bool w.p, .int .i64 w.a, .int .i64 w.n]))
    (q : ∀ k, F1 k → F k ∨ W.heap.size ≤ k) (k : Kept F W W4) (hat : v.ownBlock = v2.ownBlock ∨ ∃ i, v.ownBlock = some i ∧ W.heap.size ≤ i) (fg : F g) :
    (∃ F', Ref B (W5.setCell ⟨g, 2, none⟩ v) g F' (R.store b a n w) ∧ ∀ k, F' k → F k ∨ W.heap.size ≤ k) ∧ Kept F W (W5.setCell ⟨g, 2, none⟩ v) := by
  subst hR
  have hle : (ckeep R.ce a n).length ≤ R.ce.length := List.length_filter_le _ _
  have e : R.store b a n w = { R.drop a n with ce := ckeep R.ce a n ++ [(⟨a, n, w⟩ : Ce)] } := by rw [Rf.store, if_pos hE]; rfl
  have own' : W5.ownsRow B 72 5 v (ckeep R.ce a n ++ [(⟨a, n, w⟩ : Ce)]).length (cec (ckeep R.ce a n ++ [(⟨a, n, w⟩ : Ce)])) := by rw [cec_append, List.length_append]; exact own
  rw [e]
  refine ⟨⟨fun k => F1 k ∨ v.ownBlock = some k, ⟨v1, v, r.growC grow own' (by simp; omega)⟩, ?_⟩, ?_⟩
  · rintro i (hi | hi)
    · exact q i hi
    · rcases hat with e | ⟨j, e, hj⟩
      · exact q i (r.fc i (e ▸ hi))
      · rw [hi] at e; injection e with e; exact .inr (e ▸ hj)
  · refine (k.grown grow (fun i hi hlt => ?_)).set2 _ _ fg
    rcases q i (r.fc i hi) with h | h
    · exact h
    · omega
end

set_option maxHeartbeats 16000000 in
theorem rstore_any {B : Nat} {W : World} {g : Nat} {F : Nat → Prop} {R : Rf} {v1 v2 : Value} (h : RefAt B W g F R v1 v2) (b : Bool) (a n : Int) (w : Wd) (hl : R.ce.length < 1000000) :
    Calls Try.prog 28 #[.pointer (some ⟨g, 0, none⟩), .agg #[.bool b, .int .i64 a, .int .i64 n], .agg #[.bool w.p, .int .i64 w.a, .int .i64 w.n]] W fun e W' =>
      e = .returned (.int .i64 (R.storeE b a n)) ∧ (∃ F', Ref B W' g F' (R.store b a n w) ∧ ∀ k, F' k → F k ∨ W.heap.size ≤ k) ∧ Kept F W W' := by
  have H := Lib.hid h
  have HL := Lib.hid hl
  have HG := Lib.hid h.fg
  have hgW := (h.low g h.fg).2
  have C0 := Lib.hid (rcheck_any (h.below (below_alloc (below_alloc (Below.refl _ W) (.cells #[.bool b, .int .i64 a, .int .i64 n] 23)) (.cells #[.bool w.p, .int .i64 w.a, .int .i64 w.n] 23))) b a n)
  have hF := Lib.hid (fun k hk => (h.low k hk).2)
  clear h hl
  go_enter Try.func28, Try.ntmps28
  go_wp2_with fail
  refine C0.out.mono ?_
  rintro e w1 ⟨rfl, b1⟩
  have z1 : Below W.heap.size W w1 := Below.trans (below_alloc (below_alloc (Below.refl _ W) _) _) (b1.mono (by simp; omega))
  have H1 := Lib.hid (H.out.below z1)
  have P1 := Lib.hid (Box.below ((Box.new W #[.bool b, .int .i64 a, .int .i64 n]).alloc (.cells #[.bool w.p, .int .i64 w.a, .int .i64 w.n] 23)) b1)
  have Q1 := Lib.hid (Box.below (Box.newAt (w := W.alloc (.cells #[.bool b, .int .i64 a, .int .i64 n] 23)) (x := W.heap.size + 1) (cs := #[.bool w.p, .int .i64 w.a, .int .i64 w.n]) (by simp)) b1)
  obtain ⟨lp, hp, fp⟩ := P1.out.see
  obtain ⟨lq, hq, fq⟩ := Q1.out.see
  clear C0 b1
  by_cases hc : R.check b a = 0
  · have C2 := Lib.hid (rhas_any H1.out b a n 1 hc (by omega) (by omega))
    rw [hc]
    go_wp2_with fail
    refine C2.out.mono ?_
    rintro e w2 ⟨rfl, b2⟩
    have z2 : Below W.heap.size W w2 := z1.trans (b2.mono z1.size)
    have H2 := Lib.hid (H1.out.below b2)
    have P2 := Lib.hid (P1.out.below b2)
    have Q2 := Lib.hid (Q1.out.below b2)
    clear C2 b2 P1 Q1 H1 lp hp fp lq hq fq
    obtain ⟨lp, hp, fp⟩ := P2.out.see
    obtain ⟨lq, hq, fq⟩ := Q2.out.see
    cases hh : R.has a n 1
    · have e1 : R.storeE b a n = 13 := by rw [Rf.storeE, if_neg (by simp [hc]), if_pos hh]
      have e2 : R.store b a n w = R := by rw [Rf.store, e1, if_neg (by decide)]
      have E1 := Lib.hid e1
      have E2 := Lib.hid e2
      clear hc hh e1 e2
      go_wp2
      go_ret
      rw [E1.out, E2.out]
      exact ⟨rfl, ⟨F, ⟨v1, v2, H2.out⟩, fun _ h => .inl h⟩, Kept.of_below z2⟩
    · have e1 : R.storeE b a n = 0 := by rw [Rf.storeE, if_neg (by simp [hc]), if_neg (by simp [hh])]
      have E1 := Lib.hid e1
      have C3 := Lib.hid (rdrop_any H2.out a n)
      clear hc hh e1
      go_wp2_with fail
      refine C3.out.mono ?_
      rintro e w3 ⟨rfl, ⟨v, r3, q3⟩, k3⟩
      have z3 := (Kept.of_below (F := F) z2).trans k3 (fun _ _ h => h)
      have Z3 := Lib.hid z3
      have HR := Lib.hid r3
      have P3 := Lib.hid (P2.out.kept k3 (fun h => by have := hF.out _ h; omega))
      have Q3 := Lib.hid (Q2.out.kept k3 (fun h => by have := hF.out _ h; omega))
      have HQ := Lib.hid (show ∀ k, (F k ∨ v.ownBlock = some k) → F k ∨ W.heap.size ≤ k from fun k hk => hk.imp id (fun e => Nat.le_trans z2.size (q3 k e)))
      clear C3 P2 Q2 H2 lp hp fp lq hq fq q3 k3 z3
      obtain ⟨lp, hp, fp⟩ := P3.out.see
      obtain ⟨lq, hq, fq⟩ := Q3.out.see
      obtain ⟨c0, c1, c2, c3, c4⟩ := r3.see
      obtain ⟨A, cap, rfl⟩ := or_slice r3.rc
      have hp1 : w3.cell? ⟨W.heap.size, 1, none⟩ = some (.int .i64 a) := hp 1
      have hp2 : w3.cell? ⟨W.heap.size, 2, none⟩ = some (.int .i64 n) := hp 2
      have hq0 : w3.cell? ⟨W.heap.size + 1, 0, none⟩ = some (.bool w.p) := hq 0
      have hq1 : w3.cell? ⟨W.heap.size + 1, 1, none⟩ = some (.int .i64 w.a) := hq 1
      have hq2 : w3.cell? ⟨W.heap.size + 1, 2, none⟩ = some (.int .i64 w.n) := hq 2
      obtain ⟨i0, hi0, hz0, hz1, hz2⟩ := info_parts Try.info72
      clear r3
      go_wp2
      go_region_law (first
        | (refine step_append_at rfl (.tmp 28) (.tmp 35) 53 rfl B 72 i0 _ 5 40 Try.underlying53 hi0 hz0 hz1 hz2 rfl (by decide) (.slice A (R.drop a n).ce.length cap) (R.drop a n).ce.length (cec (R.drop a n).ce) rfl _ 1 1 [.int .i64 a, .int .i64 n, .bool w.p, .int .i64 w.a, .int .i64 w.n] rfl rfl ?_ ?_ ?_ ?_ ?_ ?_ ?_
           (intro u hu; simp at hu; rcases hu with rfl | rfl | rfl | rfl | rfl <;> rfl)
           (have := HR.out.few.2.1; simp only [maxLen]; omega)
           (have := HR.out.few.2.1; omega)
           (have := (HR.out.low g HR.out.fg).1; simp; omega)
           (exact or_below HR.out.rc (by repeat (first | exact Below.refl _ _ | apply below_alloc | apply below_drew | (refine below_drewN ?_ _))))
           (exact cell_row (by simp) _ _)
           (intro v4 w4 own4 grow4 at4
            have G4 := RefAt.farG (HR.out.below (by repeat (first | exact Below.refl _ _ | apply below_alloc | apply below_drew | (refine below_drewN ?_ _)))) grow4
            have P4 : Box w4 W.heap.size #[.bool b, .int .i64 a, .int .i64 n] := RefAt.farBox (HR.out.below (by repeat (first | exact Below.refl _ _ | apply below_alloc | apply below_drew | (refine below_drewN ?_ _)))) grow4 (by repeat (first | exact P3.out | apply Box.alloc | apply Box.drew | apply Box.drewN))
            have Q4 : Box w4 (W.heap.size + 1) #[.bool w.p, .int .i64 w.a, .int .i64 w.n] := RefAt.farBox (HR.out.below (by repeat (first | exact Below.refl _ _ | apply below_alloc | apply below_drew | (refine below_drewN ?_ _)))) grow4 (by repeat (first | exact Q3.out | apply Box.alloc | apply Box.drew | apply Box.drewN))
            have y0 : w4.cell? ⟨g, 2, none⟩ = some (.slice A (R.drop a n).ce.length cap) := blk_cell G4 2
            have yf : ∀ i, w4.frozen? ⟨g, i, none⟩ = false := fun i => blk_frozen G4 i
            have y1 : w4.cell? ⟨W.heap.size, 1, none⟩ = some (.int .i64 a) := blk_cell P4 1
            have y2 : w4.cell? ⟨W.heap.size, 2, none⟩ = some (.int .i64 n) := blk_cell P4 2
            have y3 : w4.cell? ⟨W.heap.size + 1, 0, none⟩ = some (.bool w.p) := blk_cell Q4 0
            have y4 : w4.cell? ⟨W.heap.size + 1, 1, none⟩ = some (.int .i64 w.a) := blk_cell Q4 1
            have y5 : w4.cell? ⟨W.heap.size + 1, 2, none⟩ = some (.int .i64 w.n) := blk_cell Q4 2
            obtain ⟨A4, cap4, rfl⟩ := or_slice own4
            have LAST := Lib.hid (store_last (w := w) (b := b) (HR.out.below (by repeat (first | exact Below.refl _ _ | apply below_alloc | apply below_drew | (refine below_drewN ?_ _)))) rfl E1.out HL.out grow4 own4 HQ.out (by repeat (first | exact Z3.out | apply Kept.alloc | apply Kept.drew | apply Kept.drewN)) (at4.imp id (fun e => ⟨_, e, by have := lp; simp; omega⟩)) HG.out)
            clear G4 P4 Q4 own4 grow4 at4)))
      all_goals go_wp2
      all_goals
        go_ret
        rw [E1.out]
        exact ⟨rfl, LAST.out⟩
  · have e1 : R.storeE b a n = R.check b a := by rw [Rf.storeE, if_pos hc]
    have e2 : R.store b a n w = R := by rw [Rf.store, e1, if_neg hc]
    have E1 := Lib.hid e1
    have E2 := Lib.hid e2
    have hx : (R.check b a == 0) = false := by simpa using hc
    clear hc e1 e2
    generalize hgx : R.check b a = x at *
    have HG := Lib.hid hgx
    clear hgx
    go_wp2
    go_ret
    rw [E1.out, E2.out]
    exact ⟨rfl, ⟨F, ⟨v1, v2, H1.out⟩, fun _ h => .inl h⟩, Kept.of_below z1⟩
end Go.Proofs.Ytkgiddpeaebdfaa
