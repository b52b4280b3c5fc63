/- The document's memory: Alloc. -/
import Derived.Test.YtkgiddpeaebdfaaR5
import Derived.Deep.RegionHeld3
namespace Go.Proofs.Ytkgiddpeaebdfaa
open Go.RowKit

def Rf.allocE (R : Rf) (n : Int) : Int := if n < 0 then 1 else if R.room - R.words < n then 10 else 0
def Rf.alloc (R : Rf) (n : Int) : Rf := if R.allocE n = 0 then { R with bl := R.bl ++ [(n, false)] } else R
def Rf.allocW (R : Rf) (n : Int) : Wd := if R.allocE n = 0 then ⟨true, (R.bl.length : Int) + 1, 0⟩ else Wd.zero

section
variable {B : Nat} {W W' : World} {g : Nat} {F : Nat → Prop} {R : Rf} {v1 v2 : Value}

theorem RefAt.farB (h : RefAt B W g F R v1 v2) {W1 : World} (grow : W.grownBy W1 v1.ownBlock) {k : Nat} {e : TypeId} {cs : Array Value} (hk : W.heap[k]? = some (Obj.cells cs e (0, 0))) (he : e ≠ 57) : W1.heap[k]? = W.heap[k]? :=
  grow.block k (blk_lt hk) (fun q => by
    obtain ⟨_, c2, hc⟩ := or_lt h.rb k q.symm
    have := hk.symm.trans hc
    injection this with this
    injection this with _ this
    exact he this)
theorem RefAt.farBBox (h : RefAt B W g F R v1 v2) {W1 : World} (grow : W.grownBy W1 v1.ownBlock) {x : Nat} {cs : Array Value} (hb : Box W x cs) : Box W1 x cs := (h.farB grow hb (by decide)).trans hb
theorem RefAt.farBG (h : RefAt B W g F R v1 v2) {W1 : World} (grow : W.grownBy W1 v1.ownBlock) : W1.heap[g]? = some (Obj.cells #[.int .i64 R.room, v1, v2] 55 (0, 0)) := (h.farB grow h.hg (by decide)).trans h.hg
theorem RefAt.growB (h : RefAt B W g F R v1 v2) {W1 : World} (grow : W.grownBy W1 v1.ownBlock) {v : Value} {bl : List (Int × Bool)} (hr : W1.ownsRow B 57 2 v bl.length (blc bl)) (hl : bl.length ≤ 1000 ∧ ∀ x ∈ bl, 0 ≤ x.1 ∧ x.1 ≤ 1048576) :
    RefAt B (W1.setCell ⟨g, 1, none⟩ v) g (fun k => F k ∨ v.ownBlock = some k) { R with bl := bl } v v2 := by
  have hg1 := h.farBG grow
  have hne : ∀ k (e : TypeId) (cells : Array Value), W1.heap[k]? = some (Obj.cells cells e (0, 0)) → e ≠ 55 → k ≠ g := fun k e cells hk he q => by
    subst q
    have := hk.symm.trans hg1
    injection this with this
    injection this with _ this
    exact he this
  have hc1 : W1.ownsRow B 72 5 v2 R.ce.length (cec R.ce) := or_move h.rc (fun k hk => by
    obtain ⟨_, c, hc⟩ := or_lt h.rc k hk
    exact h.farB grow hc (by decide))
  refine ⟨?_, .inl h.fg, ?_, ?_, fun k hk => .inr hk, fun k hk => .inl (h.fc k hk), ?_, h.room0, ⟨hl.1, h.few.2.1, hl.2⟩⟩
  · have := blk_set hg1 1 v
    simpa using this
  · refine or_move hr (fun k hk => Below.heap_setCell _ _ _ _ ?_)
    obtain ⟨_, cells, hc⟩ := or_lt hr k hk
    exact hne k 57 cells hc (by decide)
  · refine or_move hc1 (fun k hk => Below.heap_setCell _ _ _ _ ?_)
    obtain ⟨_, cells, hc⟩ := or_lt hc1 k hk
    exact hne k 72 cells hc (by decide)
  · intro k hk
    have hs : (W1.setCell ⟨g, 1, none⟩ v).heap.size = W1.heap.size := by simp [World.setCell]
    rw [hs]
    rcases hk with hk | hk
    · exact ⟨(h.low k hk).1, Nat.lt_of_lt_of_le (h.low k hk).2 grow.size⟩
    · obtain ⟨hb, cells, hc⟩ := or_lt hr k hk
      exact ⟨hb, blk_lt hc⟩

theorem alloc_last {W4 W5 : World} {n : Int} {v : Value} (r : RefAt B W4 g F R v1 v2) (hE : R.allocE n = 0) (h0 : 0 ≤ n ∧ n ≤ 1048576) (hl : R.bl.length < 1000)
    (grow : W4.grownBy W5 v1.ownBlock) (own : W5.ownsRow B 57 2 v (R.bl.length + 1) (blc R.bl ++ [.int .i64 n, .bool false]))
    (k : Kept F W W4) (hat : v.ownBlock = v1.ownBlock ∨ ∃ i, v.ownBlock = some i ∧ W.heap.size < i) :
    (∃ F', Ref B (W5.setCell ⟨g, 1, none⟩ v) g F' (R.alloc n) ∧ ∀ k, F' k → F k ∨ W.heap.size < k) ∧ Kept F W (W5.setCell ⟨g, 1, none⟩ v) := by
  have e : R.alloc n = { R with bl := R.bl ++ [(n, false)] } := by rw [Rf.alloc, if_pos hE]
  have own' : W5.ownsRow B 57 2 v (R.bl ++ [(n, false)]).length (blc (R.bl ++ [(n, false)])) := by rw [blc_append, List.length_append]; exact own
  rw [e]
  refine ⟨⟨fun k => F k ∨ v.ownBlock = some k, ⟨v, v2, r.growB grow own' ⟨by simp; omega, fun x hx => ?_⟩⟩, ?_⟩, ?_⟩
  · rcases List.mem_append.1 hx with hx | hx
    · exact r.few.2.2 x hx
    · simp at hx; subst hx; exact h0
  · rintro i (hi | hi)
    · exact .inl hi
    · rcases hat with e | ⟨j, e, hj⟩
      · exact .inl (r.fb i (e ▸ hi))
      · rw [hi] at e; injection e with e; exact .inr (e ▸ hj)
  · exact (k.grown grow (fun i hi hlt => r.fb i hi)).set2 _ _ r.fg
theorem Ref.move (h : Ref B W g F R) (hs : W.heap.size ≤ W'.heap.size) (hm : ∀ k, F k → W'.heap[k]? = W.heap[k]?) : Ref B W' g F R := h.imp fun _ h => h.imp fun _ h => h.move hs hm
theorem Ref.below (h : Ref B W g F R) (hb : Below W.heap.size W W') : Ref B W' g F R := h.imp fun _ h => h.imp fun _ h => h.below hb
theorem Ref.alloc (h : Ref B W g F R) (o : Obj) : Ref B (W.alloc o) g F R := h.below (below_alloc (Below.refl _ W) o)
theorem Ref.drewN (h : Ref B W g F R) (n : Nat) : Ref B (W.drewN n) g F R := h.below (below_drewN (Below.refl _ W) n)
theorem Ref.drew (h : Ref B W g F R) : Ref B W.drew g F R := h.below (below_drew (Below.refl _ W))
theorem Ref.set (h : Ref B W g F R) (p : Addr) (u : Value) (hp : ¬ F p.block) : Ref B (W.setCell p u) g F R :=
  h.move (by simp [World.setCell]) (fun k hk => Below.heap_setCell _ _ _ _ (fun e => hp (e ▸ hk)))
end

theorem words_bound {B : Nat} {W : World} {g : Nat} {F : Nat → Prop} {R : Rf} {v1 v2 : Value} (h : RefAt B W g F R v1 v2) : 0 ≤ R.words ∧ R.words ≤ 1048576000 := by
  have := wsum_take R.bl h.few.2.2 h.few.1 R.bl.length
  rw [List.take_length] at this
  exact this

set_option maxHeartbeats 2000000 in
theorem ralloc_any {B : Nat} {W : World} {g : Nat} {F : Nat → Prop} {R : Rf} {v1 v2 : Value} (h : RefAt B W g F R v1 v2) (n : Int) (hl : R.bl.length < 1000) :
    Calls Try.prog 25 #[.pointer (some ⟨g, 0, none⟩), .int .i64 n] W fun e W' =>
      e = .returned (.tuple #[.agg #[.bool (R.allocW n).p, .int .i64 (R.allocW n).a, .int .i64 (R.allocW n).n], .int .i64 (R.allocE n)]) ∧ (∃ F', Ref B W' g F' (R.alloc n) ∧ ∀ k, F' k → F k ∨ W.heap.size ≤ k) ∧ Kept F W W' := by
  have hNF : ¬ F W.heap.size := fun hF => Nat.lt_irrefl _ (h.low _ hF).2
  by_cases hn : n < 0
  · have e1 : R.allocE n = 1 := by rw [Rf.allocE, if_pos hn]
    have e2 : R.alloc n = R := by rw [Rf.alloc, e1, if_neg (by decide)]
    have e3 : R.allocW n = Wd.zero := by rw [Rf.allocW, e1, if_neg (by decide)]
    rw [e1, e2, e3]
    clear e1 e2 e3
    have H := Lib.hid h
    clear h
    go_enter Try.func25, Try.ntmps25
    go_wp2
    exact bodyPost_ret (v := .tuple #[.agg #[.bool false, .int .i64 0, .int .i64 0], .int .i64 1]) (by (simp only [results, Try.results25]); go_simp) rfl
      ⟨rfl, ⟨F, by repeat (first | exact ⟨_, _, H.out⟩ | (refine Ref.set ?_ _ _ hNF) | apply Ref.alloc | apply Ref.drewN), fun _ h => .inl h⟩, by repeat (first | exact Kept.refl _ _ | (refine Kept.set ?_ _ _ (fun h => absurd h (Nat.lt_irrefl _))) | apply Kept.alloc | apply Kept.drewN)⟩
  have hw := words_bound h
  have hr := h.room0
  have hgW := (h.low g h.fg).2
  have H := Lib.hid h
  have HL := Lib.hid hl
  clear h hl
  obtain ⟨c0, c1, c2, c3, c4⟩ := H.out.see
  go_enter Try.func25, Try.ntmps25
  go_wp2_with fail
  go_region_held3 (fun w' => w'.cell? ⟨g, 0, none⟩ = some (.int .i64 R.room)) (first | assumption | (go_keep; done))
    ((go_at_call 32
      refine (rwords_any (H.out.below (W' := _) ?_)).mono ?_
      (repeat (first | exact Below.refl _ _ | apply below_alloc | apply below_drew | (refine below_drewN ?_ _)))
      rintro e w1 ⟨rfl, b1⟩
      have z1 : Below W.heap.size W w1 := Below.trans (by repeat (first | exact Below.refl _ _ | apply below_alloc | apply below_drew | (refine below_drewN ?_ _))) (b1.mono (by simp))
      have P1 : Hid (Box w1 W.heap.size #[.bool false, .int .i64 0, .int .i64 0]) := Lib.hid (Box.below (by repeat (first | exact Box.newAt (by simp; done) | exact Box.newAt rfl | apply Box.alloc | apply Box.drew | apply Box.drewN)) b1)
      have H1 := Lib.hid (H.out.below z1)
      clear c0 c1 c2 c3 c4 b1
      obtain ⟨c0, c1, c2, c3, c4⟩ := H1.out.see
      obtain ⟨lp, hp, fp⟩ := P1.out.see))
  have hwr : IntKind.i64.wrap (R.room - R.words) = R.room - R.words := by rw [IntKind.wrap_i64]; omega
  by_cases hgt : R.room - R.words < n
  · have e1 : R.allocE n = 10 := by rw [Rf.allocE, if_neg (by omega), if_pos hgt]
    have e2 : R.alloc n = R := by rw [Rf.alloc, e1, if_neg (by decide)]
    have e3 : R.allocW n = Wd.zero := by rw [Rf.allocW, e1, if_neg (by decide)]
    have E1 := Lib.hid e1
    have E2 := Lib.hid e2
    have E3 := Lib.hid e3
    clear e1 e2 e3
    go_wp2
    exact bodyPost_ret (v := .tuple #[.agg #[.bool false, .int .i64 0, .int .i64 0], .int .i64 10]) (by (simp only [results, Try.results25]); go_simp) rfl
      ⟨by rw [E1.out, E3.out]; rfl, ⟨F, by rw [E2.out]; repeat (first | exact ⟨_, _, H1.out⟩ | (refine Ref.set ?_ _ _ hNF) | apply Ref.alloc | apply Ref.drewN), fun _ h => .inl h⟩, by repeat (first | exact Kept.of_below z1 | (refine Kept.set ?_ _ _ (fun h => absurd h (Nat.lt_irrefl _))) | apply Kept.alloc | apply Kept.drewN)⟩
  · have e1 : R.allocE n = 0 := by rw [Rf.allocE, if_neg (by omega), if_neg hgt]
    have e3 : R.allocW n = ⟨true, (R.bl.length : Int) + 1, 0⟩ := by rw [Rf.allocW, if_pos e1]
    have E1 := Lib.hid e1
    have E3 := Lib.hid e3
    have h0 : 0 ≤ n ∧ n ≤ 1048576 := by omega
    have few := H1.out.few.1
    obtain ⟨i0, hi0, hz0, hz1, hz2⟩ := info_parts Try.info57
    obtain ⟨A, cap, rfl⟩ := or_slice H1.out.rb
    clear e1 e3
    go_wp2_with (first
      | (at_builtin; refine wpList_append_own_at _ rfl (.tmp 23) (.tmp 26) 52 rfl B 57 i0 _ 2 16 Try.underlying52 hi0 hz0 hz1 hz2 rfl (by decide) _ R.bl.length (blc R.bl) rfl ?_ _ 1 1 [.int .i64 n, .bool false] rfl rfl ?_ ?_ ?_ ?_ ?_ ?_
         (exact or_below H1.out.rb (by repeat (first | exact Below.refl _ _ | apply below_alloc | apply below_drew | (refine below_drewN ?_ _))))
         (exact cell_row (by simp) _ _)
         (intro u hu; simp at hu; rcases hu with rfl | rfl <;> rfl)
         (simp only [maxLen]; omega)
         omega
         (have := (H1.out.low g H1.out.fg).1; simp; omega)
         (intro v4 w4 own4 grow4 nil4 at4
          clear nil4
          have G4 := RefAt.farBG (H1.out.below (by repeat (first | exact Below.refl _ _ | apply below_alloc | apply below_drew | (refine below_drewN ?_ _)))) grow4
          have P4 : Box w4 W.heap.size #[.bool false, .int .i64 0, .int .i64 0] := RefAt.farBBox (H1.out.below (by repeat (first | exact Below.refl _ _ | apply below_alloc | apply below_drew | (refine below_drewN ?_ _)))) grow4 (by repeat (first | exact P1.out | apply Box.alloc | apply Box.drew | apply Box.drewN))
          obtain ⟨A4, cap4, rfl⟩ := or_slice own4
          have y0 : w4.cell? ⟨g, 1, none⟩ = some (.slice A R.bl.length cap) := blk_cell G4 1
          have yf : ∀ i, w4.frozen? ⟨g, i, none⟩ = false := fun i => blk_frozen G4 i
          obtain ⟨lp4, hp4, fp4⟩ := P4.see
          have LAST := Lib.hid (alloc_last (H1.out.below (by repeat (first | exact Below.refl _ _ | apply below_alloc | apply below_drew | (refine below_drewN ?_ _)))) E1.out h0 HL.out grow4 own4 (by repeat (first | exact Kept.of_below z1 | apply Kept.alloc | apply Kept.drew | apply Kept.drewN)) (at4.imp id (fun e => ⟨_, e, by have := lp; simp; omega⟩)))
          clear G4 P4 own4 grow4 at4)))
    obtain ⟨⟨F', r5, q5⟩, k5⟩ := LAST.out
    have hNF' : ¬ F' W.heap.size := fun h => (q5 _ h).elim hNF (fun h => Nat.lt_irrefl _ h)
    refine bodyPost_ret (v := .tuple #[.agg #[.bool true, .int .i64 ((R.bl.length : Int) + 1), .int .i64 0], .int .i64 0]) (by (simp only [results, Try.results25]); go_simp) rfl ?_
    exact ⟨by rw [E1.out, E3.out], ⟨F', by repeat (first | exact r5 | (refine Ref.set ?_ _ _ hNF') | apply Ref.alloc | apply Ref.drewN), fun k hk => (q5 k hk).imp id (fun h => Nat.le_of_lt h)⟩, by repeat (first | exact k5 | (refine Kept.set ?_ _ _ (fun h => absurd h (Nat.lt_irrefl _))) | apply Kept.alloc | apply Kept.drewN)⟩
end Go.Proofs.Ytkgiddpeaebdfaa
