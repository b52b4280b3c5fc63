/- Texts of this claim in one file: H22, H26. -/
import Derived.Test.YthgnbeeobhfeaaaK9
import Derived.Test.YthgnbeeobhfeaaaK7
set_option linter.all false
section
/- Walks: the document's example. -/
namespace Go.Proofs.Ythgnbeeobhfeaaa.T
open Go.RowKit Go.Shelf Go.Proofs.YthgnbeeobhfeaaaW.PrintWords Go.Proofs.YthgnbeeobhfeaaaW.PrintLast

/-! ### Plainly -/
abbrev exB : List Bk := [⟨1, []⟩]
abbrev exC : List Ch := [⟨0, 0, [0], []⟩]
theorem ex_edge (i n : Nat) : edge exB i n = false := by
  unfold edge succI
  match i with
  | 0 => rfl
  | i + 1 => rfl
theorem ex_flow : flowL exB 1 [] exC false = [[[false], [true], [true]]] := by
  have h0 : inL exB 1 [] exC false 0 = [false] := by
    show [inV exB [] exC false 0 0] = _
    have : inV exB [] exC false 0 0 = false := by
      unfold inV mvV
      rw [if_neg]
      intro h
      cases h with
      | start h => simp at h
      | gen h _ => rw [ex_edge] at h; exact absurd h.2 (by decide)
      | pass h _ _ => rw [ex_edge] at h; exact absurd h.2 (by decide)
    rw [this]
  have hr : rchB exB 0 = true := rchB_iff.2 (.zero (by decide))
  unfold flowL
  show [if rchB exB 0 = true then statesL exC ((0 : Nat) : Int) 0 2 (inL exB 1 [] exC false 0) else []] = _
  rw [hr, if_pos rfl, h0]
  rfl
theorem ex_back : backL exB 1 exC = [[[true], [false], [false]]] := by
  have h0 : endL exB 1 exC 0 = [false] := by
    show [endV exB exC 0 0] = _
    have : endV exB exC 0 0 = false := by
      unfold endV mvV
      rw [if_neg]
      intro h
      cases h with
      | start h => exact h
      | gen h _ => rw [ex_edge] at h; exact absurd h (by decide)
      | pass h _ _ => rw [ex_edge] at h; exact absurd h (by decide)
    rw [this]
  unfold backL
  show [backStates exC ((0 : Nat) : Int) 2 (endL exB 1 exC 0)] = _
  rw [h0]
  rfl

theorem OB.one {W : World} {B : Nat} {v : Value} {a : Bool} (h : OB W B v [a]) : ∃ r d, v = .slice (some ⟨r, 0, none⟩) 1 d ∧ W.cell? ⟨r, 0, none⟩ = some (.bool a) := by
  obtain ⟨r, d, rfl, _, _⟩ := World.ownsRow.form h (by simp)
  have := World.ownsRow.cells h (g := r) rfl 0 (.bool a) rfl
  rw [add_plain] at this
  exact ⟨r, d, rfl, this⟩
theorem N3.ex {W : World} {B : Nat} {v : Value} {a b c : Bool} (h : N3 W B v [[[a], [b], [c]]]) : ∃ g cg q cq r0 d0 r1 d1 r2 d2, v = .slice (some ⟨g, 0, none⟩) 1 cg ∧ W.cell? ⟨g, 0, none⟩ = some (.slice (some ⟨q, 0, none⟩) 3 cq) ∧
    W.cell? ⟨q, 0, none⟩ = some (.slice (some ⟨r0, 0, none⟩) 1 d0) ∧ W.cell? ⟨q, 1, none⟩ = some (.slice (some ⟨r1, 0, none⟩) 1 d1) ∧ W.cell? ⟨q, 2, none⟩ = some (.slice (some ⟨r2, 0, none⟩) 1 d2) ∧
    W.cell? ⟨r0, 0, none⟩ = some (.bool a) ∧ W.cell? ⟨r1, 0, none⟩ = some (.bool b) ∧ W.cell? ⟨r2, 0, none⟩ = some (.bool c) := by
  obtain ⟨vs, h1, h2, h3⟩ := h
  match vs, h2 with
  | [u], _ =>
    obtain ⟨g, cg, rfl, _, _⟩ := h1.form (by simp)
    have hc := h1.cells (g := g) rfl 0 u rfl
    rw [add_plain] at hc
    obtain ⟨us, g1, g2, g3⟩ := (h3 0 u _ rfl rfl).own
    match us, g2 with
    | [x, y, z], _ =>
      obtain ⟨q, cq, rfl, _, _⟩ := g1.form (by simp)
      have e0 := g1.cells (g := q) rfl 0 x rfl
      have e1 := g1.cells (g := q) rfl 1 y rfl
      have e2 := g1.cells (g := q) rfl 2 z rfl
      rw [add_plain] at e0 e1 e2
      obtain ⟨r0, d0, rfl, k0⟩ := OB.one (g3 0 x [a] rfl rfl)
      obtain ⟨r1, d1, rfl, k1⟩ := OB.one (g3 1 y [b] rfl rfl)
      obtain ⟨r2, d2, rfl, k2⟩ := OB.one (g3 2 z [c] rfl rfl)
      exact ⟨g, cg, q, cq, r0, d0, r1, d1, r2, d2, rfl, hc, e0, e1, e2, k0, k1, k2⟩
/-- A row of one thing. -/
theorem C_one {α : Type} (d : Kd α) {W : World} {g : Nat} {x : α} {c : List Value} {t : TypeId} (hb : W.heap[g]? = some (.cells c.toArray t (0, 0))) (hK : d.K W x c) : d.C W (some ⟨g, 0, none⟩) 1 [x] := by
  refine ⟨rfl, by simp, fun _ => ⟨_, rfl, fun j p hj => ?_⟩⟩
  match j with
  | 0 =>
    injection hj with hj
    subst hj
    refine ⟨c, d.K_len hK, hK, fun i u hu => ?_⟩
    rw [Nat.zero_mul, Nat.zero_add, add_plain, blk_cell hb]
    simpa using hu
  | j + 1 => cases hj
theorem C_none {α : Type} (d : Kd α) (W : World) (A : Option Addr) : d.C W A 0 [] := ⟨rfl, by simp, fun h => absurd h (by omega)⟩
def exBody : S58 := ⟨[z71], z56⟩
theorem ex_bks : bksOf [exBody] = exB := rfl
theorem ex_few : fewB [exBody] = true := by decide
theorem ex_chs : chsOf [⟨0, 0, [0], []⟩] = exC := rfl

set_option maxRecDepth 100000 in
set_option maxHeartbeats 16000000 in
theorem works_any (w : World) : Calls Try.prog 10 #[] w fun e w' => e = .returned (.bool true) ∧ Below w.heap.size w w' := by
  go_enter Try.func10, Try.ntmps10
  go_wp2_with fail
  have b0 : BoxIs (w.alloc (.cells #[.int .i64 0, .int .i64 0, .int .i64 0, .slice none 0 0, .int .i64 0, .slice none 0 0, .int .i64 0, .slice none 0 0, .int .i64 0, .int .i64 0, .bool false, .int .i64 0, .bool false, .int .i64 0, .slice none 0 0] 71)) w.heap.size #[.int .i64 0, .int .i64 0, .int .i64 0, .slice none 0 0, .int .i64 0, .slice none 0 0, .int .i64 0, .slice none 0 0, .int .i64 0, .int .i64 0, .bool false, .int .i64 0, .bool false, .int .i64 0, .slice none 0 0] 71 := heap_alloc_new _ _
  have lb0 := below_alloc (Below.refl w.heap.size w) (.cells #[.int .i64 0, .int .i64 0, .int .i64 0, .slice none 0 0, .int .i64 0, .slice none 0 0, .int .i64 0, .slice none 0 0, .int .i64 0, .int .i64 0, .bool false, .int .i64 0, .bool false, .int .i64 0, .slice none 0 0] 71)
  have zb0 : (w.alloc (.cells #[.int .i64 0, .int .i64 0, .int .i64 0, .slice none 0 0, .int .i64 0, .slice none 0 0, .int .i64 0, .slice none 0 0, .int .i64 0, .int .i64 0, .bool false, .int .i64 0, .bool false, .int .i64 0, .slice none 0 0] 71)).heap.size = w.heap.size + 1 := by simp
  generalize w.alloc (.cells #[.int .i64 0, .int .i64 0, .int .i64 0, .slice none 0 0, .int .i64 0, .slice none 0 0, .int .i64 0, .slice none 0 0, .int .i64 0, .int .i64 0, .bool false, .int .i64 0, .bool false, .int .i64 0, .slice none 0 0] 71) = w1 at *
  have yw1 : w1.heap.size = w.heap.size + 1 := zb0
  have b1 : BoxIs (w1.alloc (.cells #[.slice (some ⟨w.heap.size, 0, none⟩) 1 1, .int .i64 0, .int .i64 0, .int .i64 0, .slice none 0 0, .int .i64 0, .slice none 0 0, .int .i64 0, .slice none 0 0, .int .i64 0, .int .i64 0, .bool false, .int .i64 0, .bool false, .int .i64 0, .slice none 0 0, .slice none 0 0] 58)) w1.heap.size #[.slice (some ⟨w.heap.size, 0, none⟩) 1 1, .int .i64 0, .int .i64 0, .int .i64 0, .slice none 0 0, .int .i64 0, .slice none 0 0, .int .i64 0, .slice none 0 0, .int .i64 0, .int .i64 0, .bool false, .int .i64 0, .bool false, .int .i64 0, .slice none 0 0, .slice none 0 0] 58 := heap_alloc_new _ _
  have lb1 := below_alloc (Below.refl w1.heap.size w1) (.cells #[.slice (some ⟨w.heap.size, 0, none⟩) 1 1, .int .i64 0, .int .i64 0, .int .i64 0, .slice none 0 0, .int .i64 0, .slice none 0 0, .int .i64 0, .slice none 0 0, .int .i64 0, .int .i64 0, .bool false, .int .i64 0, .bool false, .int .i64 0, .slice none 0 0, .slice none 0 0] 58)
  have zb1 : (w1.alloc (.cells #[.slice (some ⟨w.heap.size, 0, none⟩) 1 1, .int .i64 0, .int .i64 0, .int .i64 0, .slice none 0 0, .int .i64 0, .slice none 0 0, .int .i64 0, .slice none 0 0, .int .i64 0, .int .i64 0, .bool false, .int .i64 0, .bool false, .int .i64 0, .slice none 0 0, .slice none 0 0] 58)).heap.size = w1.heap.size + 1 := by simp
  generalize w1.alloc (.cells #[.slice (some ⟨w.heap.size, 0, none⟩) 1 1, .int .i64 0, .int .i64 0, .int .i64 0, .slice none 0 0, .int .i64 0, .slice none 0 0, .int .i64 0, .slice none 0 0, .int .i64 0, .int .i64 0, .bool false, .int .i64 0, .bool false, .int .i64 0, .slice none 0 0, .slice none 0 0] 58) = w2 at *
  rw [yw1] at b1 zb1
  have yw2 : w2.heap.size = w.heap.size + 1 + 1 := zb1
  replace b0 := b0.below lb1 b0.lt
  have b2 : BoxIs (w2.alloc (.cells #[.string ⟨#[]⟩, .int .i64 0, .slice none 0 0, .slice (some ⟨w.heap.size + 1, 0, none⟩) 1 1] 25)) w2.heap.size #[.string ⟨#[]⟩, .int .i64 0, .slice none 0 0, .slice (some ⟨w.heap.size + 1, 0, none⟩) 1 1] 25 := heap_alloc_new _ _
  have lb2 := below_alloc (Below.refl w2.heap.size w2) (.cells #[.string ⟨#[]⟩, .int .i64 0, .slice none 0 0, .slice (some ⟨w.heap.size + 1, 0, none⟩) 1 1] 25)
  have zb2 : (w2.alloc (.cells #[.string ⟨#[]⟩, .int .i64 0, .slice none 0 0, .slice (some ⟨w.heap.size + 1, 0, none⟩) 1 1] 25)).heap.size = w2.heap.size + 1 := by simp
  generalize w2.alloc (.cells #[.string ⟨#[]⟩, .int .i64 0, .slice none 0 0, .slice (some ⟨w.heap.size + 1, 0, none⟩) 1 1] 25) = w3 at *
  rw [yw2] at b2 zb2
  have yw3 : w3.heap.size = w.heap.size + 1 + 1 + 1 := zb2
  replace b0 := b0.below lb2 b0.lt
  replace b1 := b1.below lb2 b1.lt
  have hlow3 : Below w.heap.size w w3 := below_then (below_then lb0 lb0.size lb1) (by omega) lb2
  have b3 : BoxIs (w3.alloc (.cells #[.int .i64 0] 3)) w3.heap.size #[.int .i64 0] 3 := heap_alloc_new _ _
  have lb3 := below_alloc (Below.refl w3.heap.size w3) (.cells #[.int .i64 0] 3)
  have zb3 : (w3.alloc (.cells #[.int .i64 0] 3)).heap.size = w3.heap.size + 1 := by simp
  generalize w3.alloc (.cells #[.int .i64 0] 3) = w4 at *
  rw [yw3] at b3 zb3
  have yw4 : w4.heap.size = w.heap.size + 1 + 1 + 1 + 1 := zb3
  replace b0 := b0.below lb3 b0.lt
  replace b1 := b1.below lb3 b1.lt
  replace b2 := b2.below lb3 b2.lt
  have b4 : BoxIs (w4.alloc (.cells #[.int .i64 0, .int .i64 0, .slice (some ⟨w.heap.size + 1 + 1 + 1, 0, none⟩) 1 1, .slice none 0 0] 66)) w4.heap.size #[.int .i64 0, .int .i64 0, .slice (some ⟨w.heap.size + 1 + 1 + 1, 0, none⟩) 1 1, .slice none 0 0] 66 := heap_alloc_new _ _
  have lb4 := below_alloc (Below.refl w4.heap.size w4) (.cells #[.int .i64 0, .int .i64 0, .slice (some ⟨w.heap.size + 1 + 1 + 1, 0, none⟩) 1 1, .slice none 0 0] 66)
  have zb4 : (w4.alloc (.cells #[.int .i64 0, .int .i64 0, .slice (some ⟨w.heap.size + 1 + 1 + 1, 0, none⟩) 1 1, .slice none 0 0] 66)).heap.size = w4.heap.size + 1 := by simp
  generalize w4.alloc (.cells #[.int .i64 0, .int .i64 0, .slice (some ⟨w.heap.size + 1 + 1 + 1, 0, none⟩) 1 1, .slice none 0 0] 66) = w5 at *
  rw [yw4] at b4 zb4
  have yw5 : w5.heap.size = w.heap.size + 1 + 1 + 1 + 1 + 1 := zb4
  replace b0 := b0.below lb4 b0.lt
  replace b1 := b1.below lb4 b1.lt
  replace b2 := b2.below lb4 b2.lt
  replace b3 := b3.below lb4 b3.lt
  have hC71 : k71.C w5 (some ⟨w.heap.size, 0, none⟩) 1 [z71] := C_one k71 (c := ([.int .i64 0, .int .i64 0, .int .i64 0, .slice none 0 0, .int .i64 0, .slice none 0 0, .int .i64 0, .slice none 0 0, .int .i64 0, .int .i64 0, .bool false, .int .i64 0, .bool false, .int .i64 0, .slice none 0 0] : List Value)) b0 (k71_mk w5 z71 (Nat.le_refl 0) (C_none _ _ _) (Nat.le_refl 0) (C_none _ _ _) (Nat.le_refl 0) (C_none _ _ _) (Nat.le_refl 0) (C_none _ _ _))
  have hC58 : k58.C w5 (some ⟨w.heap.size + 1, 0, none⟩) 1 [exBody] := C_one k58 (c := ([.slice (some ⟨w.heap.size, 0, none⟩) 1 1, .int .i64 0, .int .i64 0, .int .i64 0, .slice none 0 0, .int .i64 0, .slice none 0 0, .int .i64 0, .slice none 0 0, .int .i64 0, .int .i64 0, .bool false, .int .i64 0, .bool false, .int .i64 0, .slice none 0 0, .slice none 0 0] : List Value)) b1 (k58_mk w5 exBody (Nat.le_refl 1) hC71 (Nat.le_refl 0) (C_none _ _ _) (Nat.le_refl 0) (C_none _ _ _) (Nat.le_refl 0) (C_none _ _ _) (Nat.le_refl 0) (C_none _ _ _) (Nat.le_refl 0) (C_none _ _ _))
  have hC3 : (Kd.int .i64).C w5 (some ⟨w.heap.size + 1 + 1 + 1, 0, none⟩) 1 [0] := C_one (Kd.int .i64) (c := [.int .i64 0]) b3 rfl
  have hC66 : k66.C w5 (some ⟨w.heap.size + 1 + 1 + 1 + 1, 0, none⟩) 1 [(⟨0, 0, [0], []⟩ : S66)] := C_one k66 (c := [.int .i64 0, .int .i64 0, .slice (some ⟨w.heap.size + 1 + 1 + 1, 0, none⟩) 1 1, .slice none 0 0]) b4 (k66_mk w5 ⟨0, 0, [0], []⟩ (Nat.le_refl 1) hC3 (Nat.le_refl 0) (C_none _ _ _))
  have hfl : Calls Try.prog 13 #[bodyV ⟨#[]⟩ 0 none 0 0 (some ⟨w.heap.size + 1, 0, none⟩) 1 1, .int .i64 1, .slice none 0 0, .slice (some ⟨w.heap.size + 1 + 1 + 1 + 1, 0, none⟩) 1 1, .bool false] w5 fun e w' => ∃ v, e = .returned v ∧ N3 w' w5.heap.size v [[[false], [true], [true]]] ∧ Below w5.heap.size w5 w' := by
    have h := flow_any ⟨#[]⟩ 0 none 0 0 (some ⟨w.heap.size + 1, 0, none⟩) 1 [exBody] 1 none 0 [] (some ⟨w.heap.size + 1 + 1 + 1 + 1, 0, none⟩) 1 [(⟨0, 0, [0], []⟩ : S66)] false w5 hC58 ex_few (by decide) (C_none _ _ _) (Nat.le_refl 0) hC66 (Nat.le_refl 1) (by decide) (by decide)
    rw [ex_bks, ex_chs, show (1 : Int).toNat = 1 from rfl, ex_flow] at h
    exact h
  have HFL := Lib.hid hfl
  clear hfl hC66 hC3 hC71
  refine HFL.out.mono ?_
  rintro e w6 ⟨v2, rfl, hN2, hb6⟩
  obtain ⟨g, cg, q, cq, r0, d0, r1, d1, r2, d2, rfl, f0, f1, f2, f3, f4, f5, f6⟩ := hN2.ex
  replace b0 := b0.below hb6 b0.lt
  replace b1 := b1.below hb6 b1.lt
  replace b2 := b2.below hb6 b2.lt
  replace b3 := b3.below hb6 b3.lt
  replace b4 := b4.below hb6 b4.lt
  have hC58' := Kd.C_below hC58 hb6
  have hlow6 : Below w.heap.size w w6 := below_then (below_then (below_then hlow3 hlow3.size lb3) (by omega) lb4) (by omega) hb6
  have HFF := Lib.hid (And.intro f0 (And.intro f1 (And.intro f2 (And.intro f3 (And.intro f4 (And.intro f5 f6))))))
  have e0 := b2.cell 0 _ rfl
  have e1 := b2.cell 1 _ rfl
  have e2 := b2.cell 2 _ rfl
  have e3 := b2.cell 3 _ rfl
  clear hN2 hb6 HFL hC58 lb0 lb1 lb2 lb3 lb4 b0 b1 b3 b4 f0 f1 f2 f3 f4 f5 f6 hlow3 zb0 zb1 zb2 zb3 zb4 yw1 yw2 yw3 yw4 yw5
  go_wp2_with fail
  clear e0 e1 e2 e3
  have b5 : BoxIs (w6.alloc (.cells #[.int .i64 0] 3)) w6.heap.size #[.int .i64 0] 3 := heap_alloc_new _ _
  have lb5 := below_alloc (Below.refl w6.heap.size w6) (.cells #[.int .i64 0] 3)
  have zb5 : (w6.alloc (.cells #[.int .i64 0] 3)).heap.size = w6.heap.size + 1 := by simp
  generalize w6.alloc (.cells #[.int .i64 0] 3) = w7 at *
  have yw7 : w7.heap.size = w6.heap.size + 1 := zb5
  replace b2 := b2.below lb5 b2.lt
  have b6 : BoxIs (w7.alloc (.cells #[.int .i64 0, .int .i64 0, .slice (some ⟨w6.heap.size, 0, none⟩) 1 1, .slice none 0 0] 66)) w7.heap.size #[.int .i64 0, .int .i64 0, .slice (some ⟨w6.heap.size, 0, none⟩) 1 1, .slice none 0 0] 66 := heap_alloc_new _ _
  have lb6 := below_alloc (Below.refl w7.heap.size w7) (.cells #[.int .i64 0, .int .i64 0, .slice (some ⟨w6.heap.size, 0, none⟩) 1 1, .slice none 0 0] 66)
  have zb6 : (w7.alloc (.cells #[.int .i64 0, .int .i64 0, .slice (some ⟨w6.heap.size, 0, none⟩) 1 1, .slice none 0 0] 66)).heap.size = w7.heap.size + 1 := by simp
  generalize w7.alloc (.cells #[.int .i64 0, .int .i64 0, .slice (some ⟨w6.heap.size, 0, none⟩) 1 1, .slice none 0 0] 66) = w8 at *
  rw [yw7] at b6 zb6
  have yw8 : w8.heap.size = w6.heap.size + 1 + 1 := zb6
  replace b2 := b2.below lb6 b2.lt
  replace b5 := b5.below lb6 b5.lt
  have hb68 : Below w6.heap.size w6 w8 := below_then lb5 lb5.size lb6
  have hC3 : (Kd.int .i64).C w8 (some ⟨w6.heap.size, 0, none⟩) 1 [0] := C_one (Kd.int .i64) (c := [.int .i64 0]) b5 rfl
  have hC66 : k66.C w8 (some ⟨w6.heap.size + 1, 0, none⟩) 1 [(⟨0, 0, [0], []⟩ : S66)] := C_one k66 (c := [.int .i64 0, .int .i64 0, .slice (some ⟨w6.heap.size, 0, none⟩) 1 1, .slice none 0 0]) b6 (k66_mk w8 ⟨0, 0, [0], []⟩ (Nat.le_refl 1) hC3 (Nat.le_refl 0) (C_none _ _ _))
  have hbk : Calls Try.prog 16 #[bodyV ⟨#[]⟩ 0 none 0 0 (some ⟨w.heap.size + 1, 0, none⟩) 1 1, .int .i64 1, .slice (some ⟨w6.heap.size + 1, 0, none⟩) 1 1] w8 fun e w' => ∃ v, e = .returned v ∧ N3 w' w8.heap.size v [[[true], [false], [false]]] ∧ Below w8.heap.size w8 w' := by
    have h := back_any ⟨#[]⟩ 0 none 0 0 (some ⟨w.heap.size + 1, 0, none⟩) 1 [exBody] 1 (some ⟨w6.heap.size + 1, 0, none⟩) 1 [(⟨0, 0, [0], []⟩ : S66)] w8 (Kd.C_below hC58' hb68) ex_few (by decide) hC66 (Nat.le_refl 1) (by decide) (by decide)
    rw [ex_bks, ex_chs, show (1 : Int).toNat = 1 from rfl, ex_back] at h
    exact h
  have HBK := Lib.hid hbk
  refine HBK.out.mono ?_
  rintro e w9 ⟨v3, rfl, hN3, hb9⟩
  obtain ⟨g', cg', q', cq', r0', d0', r1', d1', r2', d2', rfl, f0', f1', f2', f3', f4', f5', f6'⟩ := hN3.ex
  have hb69 := below_then hb68 hb68.size hb9
  obtain ⟨f0, f1, f2, f3, f4, f5, f6⟩ := HFF.out
  replace f0 := pw_cell_below hb69 f0
  replace f1 := pw_cell_below hb69 f1
  replace f2 := pw_cell_below hb69 f2
  replace f3 := pw_cell_below hb69 f3
  replace f4 := pw_cell_below hb69 f4
  replace f5 := pw_cell_below hb69 f5
  replace f6 := pw_cell_below hb69 f6
  replace b2 := b2.below hb9 b2.lt
  have e0 := b2.cell 0 _ rfl
  have e1 := b2.cell 1 _ rfl
  have e2 := b2.cell 2 _ rfl
  have e3 := b2.cell 3 _ rfl
  have hC58 := Kd.C_below hC58' hb69
  have hlow9 := below_then hlow6 hlow6.size hb69
  have hre := reach_any ⟨#[]⟩ 0 none 0 0 (some ⟨w.heap.size + 1, 0, none⟩) 1 [exBody] w9 hC58 ex_few
  have HRE := Lib.hid hre
  clear HBK hbk hC66 hC3 hb68 hN3 hb9 b5 b6 lb5 lb6 zb5 zb6 yw7 yw8 HFF hC58' hC58 hb69 hre hlow6
  go_wp2_with fail
  refine HRE.out.mono ?_
  rintro e w10 ⟨v4, rfl, hR4, hb10⟩
  obtain ⟨A4, c4, rfl⟩ := own_slice hR4
  have hl4 : (reachL (bksOf [exBody])).length = 1 := by simp [reachL, ex_bks]
  rw [hl4]
  clear HRE hR4
  go_wp2_with fail
  go_ret
  exact ⟨rfl, below_then hlow9 hlow9.size hb10⟩
end Go.Proofs.Ythgnbeeobhfeaaa.T
end

section
/- What stands at a place of an answer; the plain laws on answers. -/
namespace Go.Proofs.Ythgnbeeobhfeaaa.T
open Go.RowKit Go.Shelf Go.Proofs.YthgnbeeobhfeaaaW.PrintWords Go.Proofs.YthgnbeeobhfeaaaW.PrintLast

/-! ### Reading -/
theorem OB.at_ {W : World} {B : Nat} {v : Value} {xs : List Bool} (h : OB W B v xs) {j : Nat} {b : Bool} (hj : xs[j]? = some b) : ∃ g c, v = .slice (some ⟨g, 0, none⟩) xs.length c ∧ W.cell? ⟨g, j, none⟩ = some (.bool b) := by
  have hlt := (List.getElem?_eq_some_iff.1 hj).1
  obtain ⟨g, c, rfl, _, _⟩ := World.ownsRow.form h (by omega)
  have := World.ownsRow.cells h (g := g) rfl j (.bool b) (by simp [encs, hj])
  rw [add_plain] at this
  exact ⟨g, c, rfl, this⟩
theorem N2.at_ {W : World} {B : Nat} {v : Value} {xss : List (List Bool)} (h : N2 W B v xss) {i : Nat} {xs : List Bool} (hi : xss[i]? = some xs) : ∃ g c A d, v = .slice (some ⟨g, 0, none⟩) xss.length c ∧ W.cell? ⟨g, i, none⟩ = some (.slice A xs.length d) ∧ OB W B (.slice A xs.length d) xs := by
  have hlt := (List.getElem?_eq_some_iff.1 hi).1
  obtain ⟨vs, ho, hvl, hin⟩ := h.own
  obtain ⟨g, c, rfl, _, _⟩ := ho.form (by omega)
  obtain ⟨u, hu⟩ : ∃ u, vs[i]? = some u := ⟨_, List.getElem?_eq_getElem (by omega)⟩
  have hc := ho.cells (g := g) rfl i u hu
  rw [add_plain] at hc
  have hb := hin i u xs hu hi
  obtain ⟨A, d, rfl⟩ := own_slice hb
  exact ⟨g, c, A, d, rfl, hc, hb⟩
theorem N3.slice {W : World} {B : Nat} {v : Value} {xsss : List (List (List Bool))} (h : N3 W B v xsss) : ∃ A c, v = .slice A xsss.length c := by
  obtain ⟨vs, h1, h2, _⟩ := h
  rw [h2] at h1
  exact own_slice h1
theorem N3.at_ {W : World} {B : Nat} {v : Value} {xsss : List (List (List Bool))} (h : N3 W B v xsss) {i : Nat} {xss : List (List Bool)} (hi : xsss[i]? = some xss) : ∃ g c A d, v = .slice (some ⟨g, 0, none⟩) xsss.length c ∧ W.cell? ⟨g, i, none⟩ = some (.slice A xss.length d) ∧ N2 W B (.slice A xss.length d) xss := by
  have hlt := (List.getElem?_eq_some_iff.1 hi).1
  obtain ⟨vs, ho, hvl, hin⟩ := h
  rw [hvl] at ho
  obtain ⟨g, c, rfl, _, _⟩ := ho.form (by omega)
  obtain ⟨u, hu⟩ : ∃ u, vs[i]? = some u := ⟨_, List.getElem?_eq_getElem (by omega)⟩
  have hc := ho.cells (g := g) rfl i u hu
  rw [add_plain] at hc
  have hb := hin i u xss hu hi
  obtain ⟨A, d, rfl⟩ := hb.slice
  exact ⟨g, c, A, d, rfl, hc, hb⟩
theorem N3.below {W W' : World} {B : Nat} {v : Value} {xsss : List (List (List Bool))} (h : N3 W B v xsss) (hb : Below W.heap.size W W') : N3 W' B v xsss := by
  obtain ⟨vs, h1, h2, h3⟩ := h
  exact ⟨vs, pw_own_below h1 hb, h2, fun i u x hu hx => (h3 i u x hu hx).below hb⟩

/-! ### Plain laws -/
end Go.Proofs.Ythgnbeeobhfeaaa.T
end
