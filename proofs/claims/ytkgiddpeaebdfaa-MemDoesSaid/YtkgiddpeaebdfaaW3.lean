/- Walks: what is set; an allocation that is freed; a word that is stored. -/
import Derived.Test.YtkgiddpeaebdfaaW2
namespace Go.Proofs.Ytkgiddpeaebdfaa
open Go.RowKit

theorem load_any {W : World} {g : Nat} {L : Lay} {F : Nat → Prop} {S : Me} (h : MemAt W g L F S) (hI : S.Inv) (hl : S.bs.length ≤ 1000000000) (b : Bool) (a n : Int) :
    Calls Try.prog 17 #[.pointer (some ⟨g, 0, none⟩), .agg #[.bool b, .int .i64 a, .int .i64 n]] W fun e W' =>
      e = .returned (.tuple #[.agg #[.bool (S.loadW b a n).p, .int .i64 (S.loadW b a n).a, .int .i64 (S.loadW b a n).n], .int .i64 (S.loadE b a n)]) ∧ Below W.heap.size W W' := by
  by_cases he : S.pieceE b a n 1 = 0
  · have he' := he
    obtain ⟨hb, g1, g2, g3⟩ := pieceE_zero he
    obtain ⟨rfl, h1, h2, h3⟩ := blockE_zero hb
    obtain ⟨d1, d2, d3, d4, d5⟩ := h.row_cells h1 h2
    obtain ⟨w1, w2, w3, w4, w5, w6⟩ := h.word_cells hI he' (by omega)
    have hblk := piece_any (h.below (below_alloc (below_alloc (Below.refl _ W) (.cells #[.bool true, .int .i64 a, .int .i64 n] 23)) (.cells #[.bool false, .int .i64 0, .int .i64 0] 23))) hI hl true a n 1 (by omega)
    rw [he', PosP, if_pos he'] at hblk
    have e0 : c0 (S.at a) (L.I (a.toNat - 1)) = .slice (some ⟨L.I (a.toNat - 1), 0, none⟩) (S.at a).ws.length (S.at a).ws.length := by simp [c0, h3]
    have e1 : c1 (S.at a) (L.J (a.toNat - 1)) = .slice (some ⟨L.J (a.toNat - 1), 0, none⟩) (S.at a).st.length (S.at a).st.length := by simp [c1, h3]
    rw [e0] at d3
    rw [e1] at d4
    have hs := Inv.at_same hI a h1 h2
    have := load_in W g _ _ _ _ _ _ true a n _ _ _ _ hblk d1 d3 d4 g1 (by omega) (by omega) w1 w2 w6 w3 w4 w5
    have el : S.loadE true a n = if (S.at a).st.getD n.toNat false = true then 0 else 14 := by simp [Me.loadE, he']
    rw [Me.loadW, el]
    by_cases hc : (S.at a).st.getD n.toNat false = true
    · rw [if_pos hc, if_pos hc] at this
      rw [if_pos hc, if_pos rfl]
      exact this
    · rw [if_neg hc, if_neg hc] at this
      rw [if_neg hc, if_neg (by decide)]
      exact this
  · have := load_bad h hI hl b a n he
    have e : S.loadE b a n = S.pieceE b a n 1 := by simp [Me.loadE, he]
    have e2 : S.loadW b a n = Wd.zero := by simp [Me.loadW, e, he]
    rw [e2, e]
    exact this

theorem set_any {W : World} {g : Nat} {L : Lay} {F : Nat → Prop} {S : Me} (h : MemAt W g L F S) (hI : S.Inv) (hl : S.bs.length ≤ 1000000000) (b : Bool) (a n : Int) :
    Calls Try.prog 21 #[.pointer (some ⟨g, 0, none⟩), .agg #[.bool b, .int .i64 a, .int .i64 n]] W fun e W' =>
      e = .returned (.bool (S.loadE b a n == 0)) ∧ Below W.heap.size W W' := by
  have hblk := load_any (h.below (below_alloc (Below.refl _ W) (.cells #[.bool b, .int .i64 a, .int .i64 n] 23))) hI hl b a n
  generalize S.loadE b a n = x at *
  generalize S.loadW b a n = y at *
  have H := Lib.hid hblk
  clear hblk
  go_enter Try.func21, Try.ntmps21
  go_wp2_with fail
  refine H.out.mono ?_
  rintro e w1 ⟨rfl, hb⟩
  obtain ⟨hz, hb0, hc, hn1, hf1⟩ := one_new hb
  go_wp2
  go_ret
  exact ⟨rfl, by repeat (first | exact hb0 | apply below_alloc | apply below_drewN)⟩

theorem free_block {W : World} {g : Nat} {L : Lay} {F : Nat → Prop} {S : Me} (h : MemAt W g L F S) (hl : S.bs.length ≤ 1000000000) (b : Bool) (a n : Int) (he : S.blockE b a ≠ 0) :
    Calls Try.prog 20 #[.pointer (some ⟨g, 0, none⟩), .agg #[.bool b, .int .i64 a, .int .i64 n]] W fun e W' =>
      e = .returned (.int .i64 (S.blockE b a)) ∧ Below W.heap.size W W' := by
  have hx : (S.blockE b a != 0) = true := by simpa using he
  have hp : Pos S L b a = none := by simp [Pos, he]
  have hblk := block_any (h.below (below_alloc (Below.refl _ W) (.cells #[.bool b, .int .i64 a, .int .i64 n] 23))) hl b a n
  rw [hp] at hblk
  generalize S.blockE b a = x at *
  have H := Lib.hid hblk
  clear hblk
  go_enter Try.func20, Try.ntmps20
  go_wp2_with fail
  refine H.out.mono ?_
  rintro e w1 ⟨rfl, hb⟩
  obtain ⟨hz, hb0, hc, hn1, hf1⟩ := one_new hb
  go_wp2
  go_ret
  exact ⟨rfl, by repeat (first | exact hb0 | apply below_alloc | apply below_drewN)⟩

theorem free_off {W : World} {g : Nat} {L : Lay} {F : Nat → Prop} {S : Me} (h : MemAt W g L F S) (hl : S.bs.length ≤ 1000000000) (b : Bool) (a n : Int) (he : S.blockE b a = 0) (hn : n ≠ 0) :
    Calls Try.prog 20 #[.pointer (some ⟨g, 0, none⟩), .agg #[.bool b, .int .i64 a, .int .i64 n]] W fun e W' =>
      e = .returned (.int .i64 13) ∧ Below W.heap.size W W' := by
  have hx : (n != 0) = true := by simpa using hn
  have hblk := block_any (h.below (below_alloc (Below.refl _ W) (.cells #[.bool b, .int .i64 a, .int .i64 n] 23))) hl b a n
  rw [he, Pos, if_pos he] at hblk
  have H := Lib.hid hblk
  clear hblk he
  go_enter Try.func20, Try.ntmps20
  go_wp2_with fail
  refine H.out.mono ?_
  rintro e w1 ⟨rfl, hb⟩
  obtain ⟨hz, hb0, hc, hn1, hf1⟩ := one_new hb
  go_wp2
  go_ret
  exact ⟨rfl, by repeat (first | exact hb0 | apply below_alloc | apply below_drewN)⟩

theorem free_in (W : World) (g bb q len : Nat) (A B : Option Addr) (a used live : Int) (f : Bool)
    (hblk : Calls Try.prog 34 #[.pointer (some ⟨g, 0, none⟩), .agg #[.bool true, .int .i64 a, .int .i64 0]] (W.alloc (.cells #[.bool true, .int .i64 a, .int .i64 0] 23)) fun e W' =>
      e = .returned (.tuple #[.pointer (some ⟨bb, q, none⟩), .int .i64 0]) ∧ Below (W.alloc (.cells #[.bool true, .int .i64 a, .int .i64 0] 23)).heap.size (W.alloc (.cells #[.bool true, .int .i64 a, .int .i64 0] 23)) W')
    (hg : g < W.heap.size) (hbb : bb < W.heap.size) (hne : g ≠ bb) (hu : W.cell? ⟨g, 1, none⟩ = some (.int .i64 used)) (hv : W.cell? ⟨g, 2, none⟩ = some (.int .i64 live))
    (hq0 : W.cell? ⟨bb, q, none⟩ = some (.slice A len len)) (hq1 : W.cell? ⟨bb, q + 1, none⟩ = some (.slice B len len)) (hq2 : W.cell? ⟨bb, q + 2, none⟩ = some (.bool f))
    (hfg : ∀ i, W.frozen? ⟨g, i, none⟩ = false) (hfb : ∀ i, W.frozen? ⟨bb, i, none⟩ = false)
    (h1 : (len : Int) ≤ used) (h2 : used ≤ 1048576) (h3 : 1 ≤ live) (h4 : live ≤ 1000000000) (R : Ending → World → Prop)
    (hR : ∀ w1 nq, Below W.heap.size W w1 → R (.returned (.int .i64 0)) ((((((w1.setCell ⟨g, 1, none⟩ (.int .i64 (used - len))).setCell ⟨g, 2, none⟩ (.int .i64 (live - 1))).setCell ⟨bb, q, none⟩ (.slice none 0 0)).setCell ⟨bb, q + 1, none⟩ (.slice none 0 0)).setCell ⟨bb, q + 2, none⟩ (.bool true)).drewN nq)) :
    Calls Try.prog 20 #[.pointer (some ⟨g, 0, none⟩), .agg #[.bool true, .int .i64 a, .int .i64 0]] W R := by
  have H := Lib.hid hblk
  have HR := Lib.hid hR
  clear hblk hR
  go_enter Try.func20, Try.ntmps20
  go_wp2_with fail
  refine H.out.mono ?_
  rintro e w1 ⟨rfl, hb⟩
  obtain ⟨hz, hb0, hc, hn1, hf1⟩ := one_new hb
  have hfg1 : ∀ i, w1.frozen? ⟨g, i, none⟩ = false := fun i => (hb0.frozen (p := ⟨g, i, none⟩) hg).trans (hfg i)
  have hfb1 : ∀ i, w1.frozen? ⟨bb, i, none⟩ = false := fun i => (hb0.frozen (p := ⟨bb, i, none⟩) hbb).trans (hfb i)
  have hne' : bb ≠ g := hne.symm
  go_wp2
  go_region
  all_goals go_wp2
  exact HR.out w1 1 hb0

theorem Kept.set2 {F : Nat → Prop} {a b : World} (h : Kept F a b) (p : Addr) (u : Value) (hp : F p.block) : Kept F a (b.setCell p u) := h.set p u (fun _ => hp)

/-- The world behind a Free. -/
def freeW (w1 : World) (g bb q : Nat) (v1 v2 v3 v4 v5 : Value) (nq : Nat) : World :=
  (((((w1.setCell ⟨g, 1, none⟩ v1).setCell ⟨g, 2, none⟩ v2).setCell ⟨bb, q, none⟩ v3).setCell ⟨bb, q + 1, none⟩ v4).setCell ⟨bb, q + 2, none⟩ v5).drewN nq

theorem freeW_g {w1 : World} {g bb q : Nat} {v1 v2 v3 v4 v5 : Value} {nq : Nat} {cs : Array Value} {t : TypeId} (hg : w1.heap[g]? = some (.cells cs t (0, 0))) (hne : g ≠ bb) :
    (freeW w1 g bb q v1 v2 v3 v4 v5 nq).heap[g]? = some (.cells ((cs.setIfInBounds 1 v1).setIfInBounds 2 v2) t (0, 0)) := by
  rw [freeW, World.heap_drewN]
  rw [Below.heap_setCell _ _ _ _ hne, Below.heap_setCell _ _ _ _ hne, Below.heap_setCell _ _ _ _ hne]
  exact blk_set (blk_set hg 1 v1) 2 v2

theorem freeW_b {w1 : World} {g bb q : Nat} {v1 v2 v3 v4 v5 : Value} {nq : Nat} {cs : Array Value} {t : TypeId} (hb : w1.heap[bb]? = some (.cells cs t (0, 0))) (hne : bb ≠ g) :
    (freeW w1 g bb q v1 v2 v3 v4 v5 nq).heap[bb]? = some (.cells (((cs.setIfInBounds q v3).setIfInBounds (q + 1) v4).setIfInBounds (q + 2) v5) t (0, 0)) := by
  rw [freeW, World.heap_drewN]
  have h2 : ((w1.setCell ⟨g, 1, none⟩ v1).setCell ⟨g, 2, none⟩ v2).heap[bb]? = some (.cells cs t (0, 0)) := by
    rw [Below.heap_setCell _ _ _ _ hne, Below.heap_setCell _ _ _ _ hne]; exact hb
  exact blk_set (blk_set (blk_set h2 q v3) (q + 1) v4) (q + 2) v5

theorem freeW_o {w1 : World} {g bb q : Nat} {v1 v2 v3 v4 v5 : Value} {nq k : Nat} (h1 : k ≠ g) (h2 : k ≠ bb) : (freeW w1 g bb q v1 v2 v3 v4 v5 nq).heap[k]? = w1.heap[k]? := by
  rw [freeW, World.heap_drewN]
  rw [Below.heap_setCell _ _ _ _ h2, Below.heap_setCell _ _ _ _ h2, Below.heap_setCell _ _ _ _ h2, Below.heap_setCell _ _ _ _ h1, Below.heap_setCell _ _ _ _ h1]

theorem freeW_kept {F : Nat → Prop} {w w1 : World} {g bb q : Nat} {v1 v2 v3 v4 v5 : Value} {nq : Nat} (h : Kept F w w1) (hg : F g) (hb : F bb) : Kept F w (freeW w1 g bb q v1 v2 v3 v4 v5 nq) :=
  (((((h.set2 ⟨g, 1, none⟩ v1 hg).set2 ⟨g, 2, none⟩ v2 hg).set2 ⟨bb, q, none⟩ v3 hb).set2 ⟨bb, q + 1, none⟩ v4 hb).set2 ⟨bb, q + 2, none⟩ v5 hb).drewN nq

theorem free_any {W : World} {g : Nat} {L : Lay} {F : Nat → Prop} {S : Me} (h : MemAt W g L F S) (hI : S.Inv) (hl : S.bs.length ≤ 1000000000) (b : Bool) (a n : Int) :
    Calls Try.prog 20 #[.pointer (some ⟨g, 0, none⟩), .agg #[.bool b, .int .i64 a, .int .i64 n]] W fun e W' =>
      e = .returned (.int .i64 (S.freeE b a n)) ∧ MemAt W' g L F (S.free b a n) ∧ Kept F W W' := by
  by_cases he : S.blockE b a = 0
  · by_cases hn : n = 0
    · subst hn
      have e0 : S.freeE b a 0 = 0 := by simp [Me.freeE, he]
      have e1 : S.free b a 0 = ⟨S.room, S.used - (S.at a).ws.length, S.live - 1, S.bs.set (a.toNat - 1) Bk.none⟩ := by simp [Me.free, e0]
      have he' := he
      obtain ⟨rfl, h1, h2, h3⟩ := blockE_zero he
      obtain ⟨d1, d2, d3, d4, d5⟩ := h.row_cells h1 h2
      obtain ⟨r1, r2, cur, r3, r4⟩ := h.row (by omega)
      obtain ⟨k1, k2, k3, k4, k5⟩ := h.cells
      have hblk := block_any (h.below (below_alloc (Below.refl _ W) (.cells #[.bool true, .int .i64 a, .int .i64 0] 23))) hl true a 0
      rw [he', Pos, if_pos he'] at hblk
      have e2 : c0 (S.at a) (L.I (a.toNat - 1)) = .slice (some ⟨L.I (a.toNat - 1), 0, none⟩) (S.at a).ws.length (S.at a).ws.length := by simp [c0, h3]
      have e3 : c1 (S.at a) (L.J (a.toNat - 1)) = .slice (some ⟨L.J (a.toNat - 1), 0, none⟩) (S.at a).ws.length (S.at a).ws.length := by simp [c1, h3, Inv.at_same hI a h1 h2]
      rw [e2] at d3
      rw [e3] at d4
      have hu := hI.used
      have hs := sum_mem (at_mem h1 h2)
      have hv := hI.live
      have hne : g ≠ L.bb := blk_ne h.hg r3 (by decide)
      have hlv : 1 ≤ S.live ∧ S.live ≤ 1000000000 := by
        have q := sum_set Bk.one S.bs (a.toNat - 1) Bk.none (by omega)
        rw [at_get h1 h2] at q
        have q1 : Bk.one (S.at a) = 1 := by simp [Bk.one, h3]
        have q2 : (S.bs.map Bk.one).sum ≤ S.bs.length := by
          generalize S.bs = l
          induction l with
          | nil => simp
          | cons c l ih => have : Bk.one c ≤ 1 := by unfold Bk.one; split <;> omega
                           simp; omega
        have q3 : Bk.one Bk.none = 0 := rfl
        omega
      refine free_in W g L.bb ((a.toNat - 1) * 3) (S.at a).ws.length _ _ a S.used S.live _ hblk k1 d1 hne k3 k4 d3 d4 d5 (fun i => blk_frozen h.hg i) (fun i => blk_frozen r3 i)
        (by omega) (by have := hI.le; have := hI.room1; omega) hlv.1 hlv.2 _ ?_
      intro w1 nq hb0
      rw [e0, e1]
      have g1 := (h.below hb0).hg
      change _ ∧ MemAt (freeW w1 g L.bb ((a.toNat - 1) * 3) _ _ _ _ _ nq) g L F _ ∧ Kept F W (freeW w1 g L.bb ((a.toNat - 1) * 3) _ _ _ _ _ nq)
      refine ⟨rfl, ?_, freeW_kept (Kept.of_below hb0) h.fg r2⟩
      · refine MemAt.freed (h.below hb0) h1 h2 rfl ?_ ?_ ?_
        · have := freeW_g (bb := L.bb) (q := (a.toNat - 1) * 3) (v1 := .int .i64 (S.used - (S.at a).ws.length)) (v2 := .int .i64 (S.live - 1)) (v3 := .slice none 0 0) (v4 := .slice none 0 0) (v5 := .bool true) (nq := nq) g1 hne
          simpa using this
        · intro cur hcur
          exact freeW_b hcur hne.symm
        · intro k _ _ hk1 hk2
          exact freeW_o hk1 hk2
    · have e0 : S.freeE b a n = 13 := by simp [Me.freeE, he, hn]
      have e1 : S.free b a n = S := by simp [Me.free, e0]
      rw [e0, e1]
      exact (free_off h hl b a n he hn).mono fun e W' q => ⟨q.1, h.below q.2, Kept.of_below q.2⟩
  · have e0 : S.freeE b a n = S.blockE b a := by simp [Me.freeE, he]
    have e1 : S.free b a n = S := by simp [Me.free, e0, he]
    rw [e0, e1]
    exact (free_block h hl b a n he).mono fun e W' q => ⟨q.1, h.below q.2, Kept.of_below q.2⟩

theorem store_in (W : World) (g bb q len i j : Nat) (b : Bool) (a n : Int) (wp : Bool) (wa wn : Int) (u0 u1 u2 u3 : Value)
    (hblk : Calls Try.prog 33 #[.pointer (some ⟨g, 0, none⟩), .agg #[.bool b, .int .i64 a, .int .i64 n], .int .i64 1] ((W.alloc (.cells #[.bool b, .int .i64 a, .int .i64 n] 23)).alloc (.cells #[.bool wp, .int .i64 wa, .int .i64 wn] 23)) fun e W' =>
      e = .returned (.tuple #[.pointer (some ⟨bb, q, none⟩), .int .i64 0]) ∧ Below ((W.alloc (.cells #[.bool b, .int .i64 a, .int .i64 n] 23)).alloc (.cells #[.bool wp, .int .i64 wa, .int .i64 wn] 23)).heap.size ((W.alloc (.cells #[.bool b, .int .i64 a, .int .i64 n] 23)).alloc (.cells #[.bool wp, .int .i64 wa, .int .i64 wn] 23)) W')
    (hbb : bb < W.heap.size) (hq : W.cell? ⟨bb, q, none⟩ = some (.slice (some ⟨i, 0, none⟩) len len)) (hq1 : W.cell? ⟨bb, q + 1, none⟩ = some (.slice (some ⟨j, 0, none⟩) len len)) (h0 : 0 ≤ n) (h1 : n < (len : Int))
    (hi : i < W.heap.size) (hj : j < W.heap.size) (hij : i ≠ j) (hs : W.cell? ⟨j, n.toNat, none⟩ = some u3)
    (hw0 : W.cell? ⟨i, n.toNat * 3, none⟩ = some u0) (hw1 : W.cell? ⟨i, n.toNat * 3 + 1, none⟩ = some u1) (hw2 : W.cell? ⟨i, n.toNat * 3 + 2, none⟩ = some u2)
    (hfi : ∀ k, W.frozen? ⟨i, k, none⟩ = false) (hfj : ∀ k, W.frozen? ⟨j, k, none⟩ = false) (R : Ending → World → Prop)
    (hR : ∀ w1 nq, Below W.heap.size W w1 → R (.returned (.int .i64 0)) (((((w1.setCell ⟨i, n.toNat * 3, none⟩ (.bool wp)).setCell ⟨i, n.toNat * 3 + 1, none⟩ (.int .i64 wa)).setCell ⟨i, n.toNat * 3 + 2, none⟩ (.int .i64 wn)).setCell ⟨j, n.toNat, none⟩ (.bool true)).drewN nq)) :
    Calls Try.prog 15 #[.pointer (some ⟨g, 0, none⟩), .agg #[.bool b, .int .i64 a, .int .i64 n], .agg #[.bool wp, .int .i64 wa, .int .i64 wn]] W R := by
  have H := Lib.hid hblk
  have HR := Lib.hid hR
  clear hblk hR
  go_enter Try.func15, Try.ntmps15
  go_wp2_with fail
  refine H.out.mono ?_
  rintro e w1 ⟨rfl, hb⟩
  obtain ⟨hz, hb0, hc, hn1, hn2, hf1, hf2⟩ := two_new hb
  have hfi1 : ∀ k, w1.frozen? ⟨i, k, none⟩ = false := fun k => (hb0.frozen (p := ⟨i, k, none⟩) hi).trans (hfi k)
  have hfj1 : ∀ k, w1.frozen? ⟨j, k, none⟩ = false := fun k => (hb0.frozen (p := ⟨j, k, none⟩) hj).trans (hfj k)
  have hji : j ≠ i := hij.symm
  go_wp2
  go_region
  all_goals go_wp2
  all_goals exact HR.out w1 1 hb0

end Go.Proofs.Ytkgiddpeaebdfaa
