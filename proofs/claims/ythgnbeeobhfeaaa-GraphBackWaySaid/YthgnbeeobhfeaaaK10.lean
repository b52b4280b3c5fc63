/- Texts of this claim in one file: H22, H26, H23, H24, H27. -/
import Derived.Test.YthgnbeeobhfeaaaK9
import Derived.Test.YthgnbeeobhfeaaaK7
import Derived.Test.YthgnbeeobhfeaaaK6
import Derived.BigQuiet
set_option linter.all false
section
/- Walks: the document's example. -/
namespace Go.Proofs.Ythgnbeeobhfeaaa.T
open Go.RowKit Go.Shelf Go.Proofs.YthgnbeeobhfeaaaW.PrintWords Go.Proofs.YthgnbeeobhfeaaaW.PrintLast

/-! ### Plainly -/
abbrev exB : List Bk := [⟨1, []⟩]
abbrev exC : List Ch := [⟨0, 0, [0], []⟩]
theorem ex_edge (i n : Nat) : edge exB i n = false := by
  unfold edge succI
  match i with
  | 0 => rfl
  | i + 1 => rfl
theorem ex_flow : flowL exB 1 [] exC false = [[[false], [true], [true]]] := by
  have h0 : inL exB 1 [] exC false 0 = [false] := by
    show [inV exB [] exC false 0 0] = _
    have : inV exB [] exC false 0 0 = false := by
      unfold inV mvV
      rw [if_neg]
      intro h
      cases h with
      | start h => simp at h
      | gen h _ => rw [ex_edge] at h; exact absurd h.2 (by decide)
      | pass h _ _ => rw [ex_edge] at h; exact absurd h.2 (by decide)
    rw [this]
  have hr : rchB exB 0 = true := rchB_iff.2 (.zero (by decide))
  unfold flowL
  show [if rchB exB 0 = true then statesL exC ((0 : Nat) : Int) 0 2 (inL exB 1 [] exC false 0) else []] = _
  rw [hr, if_pos rfl, h0]
  rfl
theorem ex_back : backL exB 1 exC = [[[true], [false], [false]]] := by
  have h0 : endL exB 1 exC 0 = [false] := by
    show [endV exB exC 0 0] = _
    have : endV exB exC 0 0 = false := by
      unfold endV mvV
      rw [if_neg]
      intro h
      cases h with
      | start h => exact h
      | gen h _ => rw [ex_edge] at h; exact absurd h (by decide)
      | pass h _ _ => rw [ex_edge] at h; exact absurd h (by decide)
    rw [this]
  unfold backL
  show [backStates exC ((0 : Nat) : Int) 2 (endL exB 1 exC 0)] = _
  rw [h0]
  rfl

theorem OB.one {W : World} {B : Nat} {v : Value} {a : Bool} (h : OB W B v [a]) : ∃ r d, v = .slice (some ⟨r, 0, none⟩) 1 d ∧ W.cell? ⟨r, 0, none⟩ = some (.bool a) := by
  obtain ⟨r, d, rfl, _, _⟩ := World.ownsRow.form h (by simp)
  have := World.ownsRow.cells h (g := r) rfl 0 (.bool a) rfl
  rw [add_plain] at this
  exact ⟨r, d, rfl, this⟩
theorem N3.ex {W : World} {B : Nat} {v : Value} {a b c : Bool} (h : N3 W B v [[[a], [b], [c]]]) : ∃ g cg q cq r0 d0 r1 d1 r2 d2, v = .slice (some ⟨g, 0, none⟩) 1 cg ∧ W.cell? ⟨g, 0, none⟩ = some (.slice (some ⟨q, 0, none⟩) 3 cq) ∧
    W.cell? ⟨q, 0, none⟩ = some (.slice (some ⟨r0, 0, none⟩) 1 d0) ∧ W.cell? ⟨q, 1, none⟩ = some (.slice (some ⟨r1, 0, none⟩) 1 d1) ∧ W.cell? ⟨q, 2, none⟩ = some (.slice (some ⟨r2, 0, none⟩) 1 d2) ∧
    W.cell? ⟨r0, 0, none⟩ = some (.bool a) ∧ W.cell? ⟨r1, 0, none⟩ = some (.bool b) ∧ W.cell? ⟨r2, 0, none⟩ = some (.bool c) := by
  obtain ⟨vs, h1, h2, h3⟩ := h
  match vs, h2 with
  | [u], _ =>
    obtain ⟨g, cg, rfl, _, _⟩ := h1.form (by simp)
    have hc := h1.cells (g := g) rfl 0 u rfl
    rw [add_plain] at hc
    obtain ⟨us, g1, g2, g3⟩ := (h3 0 u _ rfl rfl).own
    match us, g2 with
    | [x, y, z], _ =>
      obtain ⟨q, cq, rfl, _, _⟩ := g1.form (by simp)
      have e0 := g1.cells (g := q) rfl 0 x rfl
      have e1 := g1.cells (g := q) rfl 1 y rfl
      have e2 := g1.cells (g := q) rfl 2 z rfl
      rw [add_plain] at e0 e1 e2
      obtain ⟨r0, d0, rfl, k0⟩ := OB.one (g3 0 x [a] rfl rfl)
      obtain ⟨r1, d1, rfl, k1⟩ := OB.one (g3 1 y [b] rfl rfl)
      obtain ⟨r2, d2, rfl, k2⟩ := OB.one (g3 2 z [c] rfl rfl)
      exact ⟨g, cg, q, cq, r0, d0, r1, d1, r2, d2, rfl, hc, e0, e1, e2, k0, k1, k2⟩
/-- A row of one thing. -/
theorem C_one {α : Type} (d : Kd α) {W : World} {g : Nat} {x : α} {c : List Value} {t : TypeId} (hb : W.heap[g]? = some (.cells c.toArray t (0, 0))) (hK : d.K W x c) : d.C W (some ⟨g, 0, none⟩) 1 [x] := by
  refine ⟨rfl, by simp, fun _ => ⟨_, rfl, fun j p hj => ?_⟩⟩
  match j with
  | 0 =>
    injection hj with hj
    subst hj
    refine ⟨c, d.K_len hK, hK, fun i u hu => ?_⟩
    rw [Nat.zero_mul, Nat.zero_add, add_plain, blk_cell hb]
    simpa using hu
  | j + 1 => cases hj
theorem C_none {α : Type} (d : Kd α) (W : World) (A : Option Addr) : d.C W A 0 [] := ⟨rfl, by simp, fun h => absurd h (by omega)⟩
def exBody : S58 := ⟨[z71], z56⟩
theorem ex_bks : bksOf [exBody] = exB := rfl
theorem ex_few : fewB [exBody] = true := by decide
theorem ex_chs : chsOf [⟨0, 0, [0], []⟩] = exC := rfl

set_option maxRecDepth 100000 in
set_option maxHeartbeats 16000000 in
theorem works_any (w : World) : Calls Try.prog 10 #[] w fun e w' => e = .returned (.bool true) ∧ Below w.heap.size w w' := by
  go_enter Try.func10, Try.ntmps10
  go_wp2_with fail
  have b0 : BoxIs (w.alloc (.cells #[.int .i64 0, .int .i64 0, .int .i64 0, .slice none 0 0, .int .i64 0, .slice none 0 0, .int .i64 0, .slice none 0 0, .int .i64 0, .int .i64 0, .bool false, .int .i64 0, .bool false, .int .i64 0, .slice none 0 0] 71)) w.heap.size #[.int .i64 0, .int .i64 0, .int .i64 0, .slice none 0 0, .int .i64 0, .slice none 0 0, .int .i64 0, .slice none 0 0, .int .i64 0, .int .i64 0, .bool false, .int .i64 0, .bool false, .int .i64 0, .slice none 0 0] 71 := heap_alloc_new _ _
  have lb0 := below_alloc (Below.refl w.heap.size w) (.cells #[.int .i64 0, .int .i64 0, .int .i64 0, .slice none 0 0, .int .i64 0, .slice none 0 0, .int .i64 0, .slice none 0 0, .int .i64 0, .int .i64 0, .bool false, .int .i64 0, .bool false, .int .i64 0, .slice none 0 0] 71)
  have zb0 : (w.alloc (.cells #[.int .i64 0, .int .i64 0, .int .i64 0, .slice none 0 0, .int .i64 0, .slice none 0 0, .int .i64 0, .slice none 0 0, .int .i64 0, .int .i64 0, .bool false, .int .i64 0, .bool false, .int .i64 0, .slice none 0 0] 71)).heap.size = w.heap.size + 1 := by simp
  generalize w.alloc (.cells #[.int .i64 0, .int .i64 0, .int .i64 0, .slice none 0 0, .int .i64 0, .slice none 0 0, .int .i64 0, .slice none 0 0, .int .i64 0, .int .i64 0, .bool false, .int .i64 0, .bool false, .int .i64 0, .slice none 0 0] 71) = w1 at *
  have yw1 : w1.heap.size = w.heap.size + 1 := zb0
  have b1 : BoxIs (w1.alloc (.cells #[.slice (some ⟨w.heap.size, 0, none⟩) 1 1, .int .i64 0, .int .i64 0, .int .i64 0, .slice none 0 0, .int .i64 0, .slice none 0 0, .int .i64 0, .slice none 0 0, .int .i64 0, .int .i64 0, .bool false, .int .i64 0, .bool false, .int .i64 0, .slice none 0 0, .slice none 0 0] 58)) w1.heap.size #[.slice (some ⟨w.heap.size, 0, none⟩) 1 1, .int .i64 0, .int .i64 0, .int .i64 0, .slice none 0 0, .int .i64 0, .slice none 0 0, .int .i64 0, .slice none 0 0, .int .i64 0, .int .i64 0, .bool false, .int .i64 0, .bool false, .int .i64 0, .slice none 0 0, .slice none 0 0] 58 := heap_alloc_new _ _
  have lb1 := below_alloc (Below.refl w1.heap.size w1) (.cells #[.slice (some ⟨w.heap.size, 0, none⟩) 1 1, .int .i64 0, .int .i64 0, .int .i64 0, .slice none 0 0, .int .i64 0, .slice none 0 0, .int .i64 0, .slice none 0 0, .int .i64 0, .int .i64 0, .bool false, .int .i64 0, .bool false, .int .i64 0, .slice none 0 0, .slice none 0 0] 58)
  have zb1 : (w1.alloc (.cells #[.slice (some ⟨w.heap.size, 0, none⟩) 1 1, .int .i64 0, .int .i64 0, .int .i64 0, .slice none 0 0, .int .i64 0, .slice none 0 0, .int .i64 0, .slice none 0 0, .int .i64 0, .int .i64 0, .bool false, .int .i64 0, .bool false, .int .i64 0, .slice none 0 0, .slice none 0 0] 58)).heap.size = w1.heap.size + 1 := by simp
  generalize w1.alloc (.cells #[.slice (some ⟨w.heap.size, 0, none⟩) 1 1, .int .i64 0, .int .i64 0, .int .i64 0, .slice none 0 0, .int .i64 0, .slice none 0 0, .int .i64 0, .slice none 0 0, .int .i64 0, .int .i64 0, .bool false, .int .i64 0, .bool false, .int .i64 0, .slice none 0 0, .slice none 0 0] 58) = w2 at *
  rw [yw1] at b1 zb1
  have yw2 : w2.heap.size = w.heap.size + 1 + 1 := zb1
  replace b0 := b0.below lb1 b0.lt
  have b2 : BoxIs (w2.alloc (.cells #[.string ⟨#[]⟩, .int .i64 0, .slice none 0 0, .slice (some ⟨w.heap.size + 1, 0, none⟩) 1 1] 25)) w2.heap.size #[.string ⟨#[]⟩, .int .i64 0, .slice none 0 0, .slice (some ⟨w.heap.size + 1, 0, none⟩) 1 1] 25 := heap_alloc_new _ _
  have lb2 := below_alloc (Below.refl w2.heap.size w2) (.cells #[.string ⟨#[]⟩, .int .i64 0, .slice none 0 0, .slice (some ⟨w.heap.size + 1, 0, none⟩) 1 1] 25)
  have zb2 : (w2.alloc (.cells #[.string ⟨#[]⟩, .int .i64 0, .slice none 0 0, .slice (some ⟨w.heap.size + 1, 0, none⟩) 1 1] 25)).heap.size = w2.heap.size + 1 := by simp
  generalize w2.alloc (.cells #[.string ⟨#[]⟩, .int .i64 0, .slice none 0 0, .slice (some ⟨w.heap.size + 1, 0, none⟩) 1 1] 25) = w3 at *
  rw [yw2] at b2 zb2
  have yw3 : w3.heap.size = w.heap.size + 1 + 1 + 1 := zb2
  replace b0 := b0.below lb2 b0.lt
  replace b1 := b1.below lb2 b1.lt
  have hlow3 : Below w.heap.size w w3 := below_then (below_then lb0 lb0.size lb1) (by omega) lb2
  have b3 : BoxIs (w3.alloc (.cells #[.int .i64 0] 3)) w3.heap.size #[.int .i64 0] 3 := heap_alloc_new _ _
  have lb3 := below_alloc (Below.refl w3.heap.size w3) (.cells #[.int .i64 0] 3)
  have zb3 : (w3.alloc (.cells #[.int .i64 0] 3)).heap.size = w3.heap.size + 1 := by simp
  generalize w3.alloc (.cells #[.int .i64 0] 3) = w4 at *
  rw [yw3] at b3 zb3
  have yw4 : w4.heap.size = w.heap.size + 1 + 1 + 1 + 1 := zb3
  replace b0 := b0.below lb3 b0.lt
  replace b1 := b1.below lb3 b1.lt
  replace b2 := b2.below lb3 b2.lt
  have b4 : BoxIs (w4.alloc (.cells #[.int .i64 0, .int .i64 0, .slice (some ⟨w.heap.size + 1 + 1 + 1, 0, none⟩) 1 1, .slice none 0 0] 66)) w4.heap.size #[.int .i64 0, .int .i64 0, .slice (some ⟨w.heap.size + 1 + 1 + 1, 0, none⟩) 1 1, .slice none 0 0] 66 := heap_alloc_new _ _
  have lb4 := below_alloc (Below.refl w4.heap.size w4) (.cells #[.int .i64 0, .int .i64 0, .slice (some ⟨w.heap.size + 1 + 1 + 1, 0, none⟩) 1 1, .slice none 0 0] 66)
  have zb4 : (w4.alloc (.cells #[.int .i64 0, .int .i64 0, .slice (some ⟨w.heap.size + 1 + 1 + 1, 0, none⟩) 1 1, .slice none 0 0] 66)).heap.size = w4.heap.size + 1 := by simp
  generalize w4.alloc (.cells #[.int .i64 0, .int .i64 0, .slice (some ⟨w.heap.size + 1 + 1 + 1, 0, none⟩) 1 1, .slice none 0 0] 66) = w5 at *
  rw [yw4] at b4 zb4
  have yw5 : w5.heap.size = w.heap.size + 1 + 1 + 1 + 1 + 1 := zb4
  replace b0 := b0.below lb4 b0.lt
  replace b1 := b1.below lb4 b1.lt
  replace b2 := b2.below lb4 b2.lt
  replace b3 := b3.below lb4 b3.lt
  have hC71 : k71.C w5 (some ⟨w.heap.size, 0, none⟩) 1 [z71] := C_one k71 (c := ([.int .i64 0, .int .i64 0, .int .i64 0, .slice none 0 0, .int .i64 0, .slice none 0 0, .int .i64 0, .slice none 0 0, .int .i64 0, .int .i64 0, .bool false, .int .i64 0, .bool false, .int .i64 0, .slice none 0 0] : List Value)) b0 (k71_mk w5 z71 (Nat.le_refl 0) (C_none _ _ _) (Nat.le_refl 0) (C_none _ _ _) (Nat.le_refl 0) (C_none _ _ _) (Nat.le_refl 0) (C_none _ _ _))
  have hC58 : k58.C w5 (some ⟨w.heap.size + 1, 0, none⟩) 1 [exBody] := C_one k58 (c := ([.slice (some ⟨w.heap.size, 0, none⟩) 1 1, .int .i64 0, .int .i64 0, .int .i64 0, .slice none 0 0, .int .i64 0, .slice none 0 0, .int .i64 0, .slice none 0 0, .int .i64 0, .int .i64 0, .bool false, .int .i64 0, .bool false, .int .i64 0, .slice none 0 0, .slice none 0 0] : List Value)) b1 (k58_mk w5 exBody (Nat.le_refl 1) hC71 (Nat.le_refl 0) (C_none _ _ _) (Nat.le_refl 0) (C_none _ _ _) (Nat.le_refl 0) (C_none _ _ _) (Nat.le_refl 0) (C_none _ _ _) (Nat.le_refl 0) (C_none _ _ _))
  have hC3 : (Kd.int .i64).C w5 (some ⟨w.heap.size + 1 + 1 + 1, 0, none⟩) 1 [0] := C_one (Kd.int .i64) (c := [.int .i64 0]) b3 rfl
  have hC66 : k66.C w5 (some ⟨w.heap.size + 1 + 1 + 1 + 1, 0, none⟩) 1 [(⟨0, 0, [0], []⟩ : S66)] := C_one k66 (c := [.int .i64 0, .int .i64 0, .slice (some ⟨w.heap.size + 1 + 1 + 1, 0, none⟩) 1 1, .slice none 0 0]) b4 (k66_mk w5 ⟨0, 0, [0], []⟩ (Nat.le_refl 1) hC3 (Nat.le_refl 0) (C_none _ _ _))
  have hfl : Calls Try.prog 13 #[bodyV ⟨#[]⟩ 0 none 0 0 (some ⟨w.heap.size + 1, 0, none⟩) 1 1, .int .i64 1, .slice none 0 0, .slice (some ⟨w.heap.size + 1 + 1 + 1 + 1, 0, none⟩) 1 1, .bool false] w5 fun e w' => ∃ v, e = .returned v ∧ N3 w' w5.heap.size v [[[false], [true], [true]]] ∧ Below w5.heap.size w5 w' := by
    have h := flow_any ⟨#[]⟩ 0 none 0 0 (some ⟨w.heap.size + 1, 0, none⟩) 1 [exBody] 1 none 0 [] (some ⟨w.heap.size + 1 + 1 + 1 + 1, 0, none⟩) 1 [(⟨0, 0, [0], []⟩ : S66)] false w5 hC58 ex_few (by decide) (C_none _ _ _) (Nat.le_refl 0) hC66 (Nat.le_refl 1) (by decide) (by decide)
    rw [ex_bks, ex_chs, show (1 : Int).toNat = 1 from rfl, ex_flow] at h
    exact h
  have HFL := Lib.hid hfl
  clear hfl hC66 hC3 hC71
  refine HFL.out.mono ?_
  rintro e w6 ⟨v2, rfl, hN2, hb6⟩
  obtain ⟨g, cg, q, cq, r0, d0, r1, d1, r2, d2, rfl, f0, f1, f2, f3, f4, f5, f6⟩ := hN2.ex
  replace b0 := b0.below hb6 b0.lt
  replace b1 := b1.below hb6 b1.lt
  replace b2 := b2.below hb6 b2.lt
  replace b3 := b3.below hb6 b3.lt
  replace b4 := b4.below hb6 b4.lt
  have hC58' := Kd.C_below hC58 hb6
  have hlow6 : Below w.heap.size w w6 := below_then (below_then (below_then hlow3 hlow3.size lb3) (by omega) lb4) (by omega) hb6
  have HFF := Lib.hid (And.intro f0 (And.intro f1 (And.intro f2 (And.intro f3 (And.intro f4 (And.intro f5 f6))))))
  have e0 := b2.cell 0 _ rfl
  have e1 := b2.cell 1 _ rfl
  have e2 := b2.cell 2 _ rfl
  have e3 := b2.cell 3 _ rfl
  clear hN2 hb6 HFL hC58 lb0 lb1 lb2 lb3 lb4 b0 b1 b3 b4 f0 f1 f2 f3 f4 f5 f6 hlow3 zb0 zb1 zb2 zb3 zb4 yw1 yw2 yw3 yw4 yw5
  go_wp2_with fail
  clear e0 e1 e2 e3
  have b5 : BoxIs (w6.alloc (.cells #[.int .i64 0] 3)) w6.heap.size #[.int .i64 0] 3 := heap_alloc_new _ _
  have lb5 := below_alloc (Below.refl w6.heap.size w6) (.cells #[.int .i64 0] 3)
  have zb5 : (w6.alloc (.cells #[.int .i64 0] 3)).heap.size = w6.heap.size + 1 := by simp
  generalize w6.alloc (.cells #[.int .i64 0] 3) = w7 at *
  have yw7 : w7.heap.size = w6.heap.size + 1 := zb5
  replace b2 := b2.below lb5 b2.lt
  have b6 : BoxIs (w7.alloc (.cells #[.int .i64 0, .int .i64 0, .slice (some ⟨w6.heap.size, 0, none⟩) 1 1, .slice none 0 0] 66)) w7.heap.size #[.int .i64 0, .int .i64 0, .slice (some ⟨w6.heap.size, 0, none⟩) 1 1, .slice none 0 0] 66 := heap_alloc_new _ _
  have lb6 := below_alloc (Below.refl w7.heap.size w7) (.cells #[.int .i64 0, .int .i64 0, .slice (some ⟨w6.heap.size, 0, none⟩) 1 1, .slice none 0 0] 66)
  have zb6 : (w7.alloc (.cells #[.int .i64 0, .int .i64 0, .slice (some ⟨w6.heap.size, 0, none⟩) 1 1, .slice none 0 0] 66)).heap.size = w7.heap.size + 1 := by simp
  generalize w7.alloc (.cells #[.int .i64 0, .int .i64 0, .slice (some ⟨w6.heap.size, 0, none⟩) 1 1, .slice none 0 0] 66) = w8 at *
  rw [yw7] at b6 zb6
  have yw8 : w8.heap.size = w6.heap.size + 1 + 1 := zb6
  replace b2 := b2.below lb6 b2.lt
  replace b5 := b5.below lb6 b5.lt
  have hb68 : Below w6.heap.size w6 w8 := below_then lb5 lb5.size lb6
  have hC3 : (Kd.int .i64).C w8 (some ⟨w6.heap.size, 0, none⟩) 1 [0] := C_one (Kd.int .i64) (c := [.int .i64 0]) b5 rfl
  have hC66 : k66.C w8 (some ⟨w6.heap.size + 1, 0, none⟩) 1 [(⟨0, 0, [0], []⟩ : S66)] := C_one k66 (c := [.int .i64 0, .int .i64 0, .slice (some ⟨w6.heap.size, 0, none⟩) 1 1, .slice none 0 0]) b6 (k66_mk w8 ⟨0, 0, [0], []⟩ (Nat.le_refl 1) hC3 (Nat.le_refl 0) (C_none _ _ _))
  have hbk : Calls Try.prog 16 #[bodyV ⟨#[]⟩ 0 none 0 0 (some ⟨w.heap.size + 1, 0, none⟩) 1 1, .int .i64 1, .slice (some ⟨w6.heap.size + 1, 0, none⟩) 1 1] w8 fun e w' => ∃ v, e = .returned v ∧ N3 w' w8.heap.size v [[[true], [false], [false]]] ∧ Below w8.heap.size w8 w' := by
    have h := back_any ⟨#[]⟩ 0 none 0 0 (some ⟨w.heap.size + 1, 0, none⟩) 1 [exBody] 1 (some ⟨w6.heap.size + 1, 0, none⟩) 1 [(⟨0, 0, [0], []⟩ : S66)] w8 (Kd.C_below hC58' hb68) ex_few (by decide) hC66 (Nat.le_refl 1) (by decide) (by decide)
    rw [ex_bks, ex_chs, show (1 : Int).toNat = 1 from rfl, ex_back] at h
    exact h
  have HBK := Lib.hid hbk
  refine HBK.out.mono ?_
  rintro e w9 ⟨v3, rfl, hN3, hb9⟩
  obtain ⟨g', cg', q', cq', r0', d0', r1', d1', r2', d2', rfl, f0', f1', f2', f3', f4', f5', f6'⟩ := hN3.ex
  have hb69 := below_then hb68 hb68.size hb9
  obtain ⟨f0, f1, f2, f3, f4, f5, f6⟩ := HFF.out
  replace f0 := pw_cell_below hb69 f0
  replace f1 := pw_cell_below hb69 f1
  replace f2 := pw_cell_below hb69 f2
  replace f3 := pw_cell_below hb69 f3
  replace f4 := pw_cell_below hb69 f4
  replace f5 := pw_cell_below hb69 f5
  replace f6 := pw_cell_below hb69 f6
  replace b2 := b2.below hb9 b2.lt
  have e0 := b2.cell 0 _ rfl
  have e1 := b2.cell 1 _ rfl
  have e2 := b2.cell 2 _ rfl
  have e3 := b2.cell 3 _ rfl
  have hC58 := Kd.C_below hC58' hb69
  have hlow9 := below_then hlow6 hlow6.size hb69
  have hre := reach_any ⟨#[]⟩ 0 none 0 0 (some ⟨w.heap.size + 1, 0, none⟩) 1 [exBody] w9 hC58 ex_few
  have HRE := Lib.hid hre
  clear HBK hbk hC66 hC3 hb68 hN3 hb9 b5 b6 lb5 lb6 zb5 zb6 yw7 yw8 HFF hC58' hC58 hb69 hre hlow6
  go_wp2_with fail
  refine HRE.out.mono ?_
  rintro e w10 ⟨v4, rfl, hR4, hb10⟩
  obtain ⟨A4, c4, rfl⟩ := own_slice hR4
  have hl4 : (reachL (bksOf [exBody])).length = 1 := by simp [reachL, ex_bks]
  rw [hl4]
  clear HRE hR4
  go_wp2_with fail
  go_ret
  exact ⟨rfl, below_then hlow9 hlow9.size hb10⟩
end Go.Proofs.Ythgnbeeobhfeaaa.T
end

section
/- What stands at a place of an answer; the plain laws on answers. -/
namespace Go.Proofs.Ythgnbeeobhfeaaa.T
open Go.RowKit Go.Shelf Go.Proofs.YthgnbeeobhfeaaaW.PrintWords Go.Proofs.YthgnbeeobhfeaaaW.PrintLast

/-! ### Reading -/
theorem OB.at_ {W : World} {B : Nat} {v : Value} {xs : List Bool} (h : OB W B v xs) {j : Nat} {b : Bool} (hj : xs[j]? = some b) : ∃ g c, v = .slice (some ⟨g, 0, none⟩) xs.length c ∧ W.cell? ⟨g, j, none⟩ = some (.bool b) := by
  have hlt := (List.getElem?_eq_some_iff.1 hj).1
  obtain ⟨g, c, rfl, _, _⟩ := World.ownsRow.form h (by omega)
  have := World.ownsRow.cells h (g := g) rfl j (.bool b) (by simp [encs, hj])
  rw [add_plain] at this
  exact ⟨g, c, rfl, this⟩
theorem N2.at_ {W : World} {B : Nat} {v : Value} {xss : List (List Bool)} (h : N2 W B v xss) {i : Nat} {xs : List Bool} (hi : xss[i]? = some xs) : ∃ g c A d, v = .slice (some ⟨g, 0, none⟩) xss.length c ∧ W.cell? ⟨g, i, none⟩ = some (.slice A xs.length d) ∧ OB W B (.slice A xs.length d) xs := by
  have hlt := (List.getElem?_eq_some_iff.1 hi).1
  obtain ⟨vs, ho, hvl, hin⟩ := h.own
  obtain ⟨g, c, rfl, _, _⟩ := ho.form (by omega)
  obtain ⟨u, hu⟩ : ∃ u, vs[i]? = some u := ⟨_, List.getElem?_eq_getElem (by omega)⟩
  have hc := ho.cells (g := g) rfl i u hu
  rw [add_plain] at hc
  have hb := hin i u xs hu hi
  obtain ⟨A, d, rfl⟩ := own_slice hb
  exact ⟨g, c, A, d, rfl, hc, hb⟩
theorem N3.slice {W : World} {B : Nat} {v : Value} {xsss : List (List (List Bool))} (h : N3 W B v xsss) : ∃ A c, v = .slice A xsss.length c := by
  obtain ⟨vs, h1, h2, _⟩ := h
  rw [h2] at h1
  exact own_slice h1
theorem N3.at_ {W : World} {B : Nat} {v : Value} {xsss : List (List (List Bool))} (h : N3 W B v xsss) {i : Nat} {xss : List (List Bool)} (hi : xsss[i]? = some xss) : ∃ g c A d, v = .slice (some ⟨g, 0, none⟩) xsss.length c ∧ W.cell? ⟨g, i, none⟩ = some (.slice A xss.length d) ∧ N2 W B (.slice A xss.length d) xss := by
  have hlt := (List.getElem?_eq_some_iff.1 hi).1
  obtain ⟨vs, ho, hvl, hin⟩ := h
  rw [hvl] at ho
  obtain ⟨g, c, rfl, _, _⟩ := ho.form (by omega)
  obtain ⟨u, hu⟩ : ∃ u, vs[i]? = some u := ⟨_, List.getElem?_eq_getElem (by omega)⟩
  have hc := ho.cells (g := g) rfl i u hu
  rw [add_plain] at hc
  have hb := hin i u xss hu hi
  obtain ⟨A, d, rfl⟩ := hb.slice
  exact ⟨g, c, A, d, rfl, hc, hb⟩
theorem N3.below {W W' : World} {B : Nat} {v : Value} {xsss : List (List (List Bool))} (h : N3 W B v xsss) (hb : Below W.heap.size W W') : N3 W' B v xsss := by
  obtain ⟨vs, h1, h2, h3⟩ := h
  exact ⟨vs, pw_own_below h1 hb, h2, fun i u x hu hx => (h3 i u x hu hx).below hb⟩

/-! ### Plain laws -/
theorem statesL_at {cs : List Ch} {b : Int} {r k : Nat} {now x : List Bool} (h : (statesL cs b 0 r now)[k]? = some x) : k ≤ r ∧ x = runL cs b 0 k now := by
  have hk : k ≤ r := by
    have := (List.getElem?_eq_some_iff.1 h).1
    rw [statesL_length] at this
    omega
  rw [statesL_get r 0 now k hk] at h
  exact ⟨hk, (Option.some.inj h).symm⟩
theorem flowL_get {bs : List Bk} {N : Nat} {start : List Bool} {cs : List Ch} {e : Bool} {i : Nat} {X : List (List Bool)} (h : (flowL bs N start cs e)[i]? = some X) :
    i < bs.length ∧ X = if rchB bs i then statesL cs (i : Int) 0 (insN bs i + 1) (inL bs N start cs e i) else [] := by
  have hi : i < bs.length := by
    have := (List.getElem?_eq_some_iff.1 h).1
    simpa [flowL] using this
  rw [flowL, List.getElem?_map, List.getElem?_range hi, Option.map_some, Option.some.injEq] at h
  exact ⟨hi, h.symm⟩
theorem flowL_length (bs : List Bk) (N : Nat) (start : List Bool) (cs : List Ch) (e : Bool) : (flowL bs N start cs e).length = bs.length := by simp [flowL]
theorem inL_length (bs : List Bk) (N : Nat) (start : List Bool) (cs : List Ch) (e : Bool) (i : Nat) : (inL bs N start cs e i).length = N := by simp [inL]
/-- Flag j at place (i, k). -/
theorem flowL_flag {bs : List Bk} {N : Nat} {start : List Bool} {cs : List Ch} {e : Bool} {i k : Nat} {X : List (List Bool)} {x : List Bool} (h : (flowL bs N start cs e)[i]? = some X) (hk : X[k]? = some x) :
    x.length = N ∧ ∀ j, j < N → x[j]? = some (runB cs (i : Int) j 0 k (inV bs start cs e j i)) := by
  obtain ⟨hi, rfl⟩ := flowL_get h
  split at hk
  · obtain ⟨_, rfl⟩ := statesL_at hk
    refine ⟨by rw [runL_length, inL_length], fun j hj => ?_⟩
    have h0 : (inL bs N start cs e i)[j]? = some (inV bs start cs e j i) := by simp [inL, hj]
    exact runL_get k 0 h0
  · cases hk
theorem Mv_mono {e : Bool} {S S' : Nat → Prop} {T : Nat → Bool → Bool} {E : Nat → Nat → Prop} (h : ∀ n, S n → S' n) {n : Nat} (hm : Mv e S T E n) : Mv e S' T E n := by
  induction hm with
  | start h' => exact .start (h _ h')
  | gen h1 h2 => exact .gen h1 h2
  | pass h1 _ h2 ih => exact .pass h1 ih h2
/-- More that starts gives no less. -/
theorem inV_more {bs : List Bk} {start more : List Bool} {cs : List Ch} {e : Bool} {j n : Nat} (h : start.getD j false = true → more.getD j false = true) (hx : inV bs start cs e j n = true) : inV bs more cs e j n = true := by
  unfold inV mvV at *
  cases e with
  | false =>
    split at hx
    · rename_i hm
      rw [if_pos (Mv_mono (fun m hm => ⟨hm.1, fun q => by
        have := h (by cases hs : start.getD j false with
          | true => rfl
          | false => exact absurd hs hm.2)
        rw [this] at q
        cases q⟩) hm)]
      rfl
    · cases hx
  | true =>
    split at hx
    · cases hx
    · rename_i hm
      rw [if_neg (fun hm' => hm (Mv_mono (fun m hm' => ⟨hm'.1, fun q => hm'.2 (h q)⟩) hm'))]
theorem flow_more {bs : List Bk} {N : Nat} {start more : List Bool} {cs : List Ch} {e : Bool} (hs : ∀ j, start.getD j false = true → more.getD j false = true) {i : Nat} {X Y : List (List Bool)} (hX : (flowL bs N start cs e)[i]? = some X) (hY : (flowL bs N more cs e)[i]? = some Y) :
    X.length = Y.length ∧ ∀ (k : Nat) (x y : List Bool), X[k]? = some x → Y[k]? = some y → x.length = y.length ∧ ∀ j : Nat, x[j]? = some true → y[j]? = some true := by
  refine ⟨?_, fun k x y hx hy => ?_⟩
  · obtain ⟨_, h1⟩ := flowL_get hX
    obtain ⟨_, h2⟩ := flowL_get hY
    rw [h1, h2]
    split
    · rw [statesL_length, statesL_length]
    · rfl
  · have h1 := flowL_flag hX hx
    have h2 := flowL_flag hY hy
    refine ⟨by rw [h1.1, h2.1], fun j hj => ?_⟩
    have hlt : j < N := by have := (List.getElem?_eq_some_iff.1 hj).1; rwa [h1.1] at this
    rw [h1.2 j hlt, Option.some.injEq] at hj
    rw [h2.2 j hlt, Option.some.injEq]
    exact runB_mono _ _ (inV_more (hs j)) hj
end Go.Proofs.Ythgnbeeobhfeaaa.T
end

section
/- Walks: is a flag in a Gen, or a Kill, at a step? -/
namespace Go.Proofs.Ythgnbeeobhfeaaa.T
open Go.RowKit Go.Shelf Go.Proofs.YthgnbeeobhfeaaaW.PrintWords Go.Proofs.YthgnbeeobhfeaaaW.PrintLast

def mkS (c : S66) (g : Bool) : List Int := if g then c.f2 else c.f3
def markS (b k j : Int) (g : Bool) (c : S66) : Bool := decide (c.f0 = b) && decide (c.f1 = k) && (mkS c g).contains j
theorem marked_any_eq (l : List S66) (b k j : Int) (g : Bool) : (hits (chsOf l) b k).any (fun c => (if g then c.gen else c.kil).contains j) = l.any (markS b k j g) := by
  unfold hits chsOf
  rw [List.filter_map, List.any_map, List.any_filter]
  congr 1

theorem drawn0_rfl (W : World) : Drawn0 W W := ⟨0, rfl⟩
set_option maxRecDepth 100000 in
set_option maxHeartbeats 8000000 in
theorem marked_any (W : World) (A : Option Addr) (c : Nat) (l : List S66) (b k j : Int) (g : Bool) (hC : Kd.C k66 W A l.length l) :
    Calls Try.prog 24 #[.slice A l.length c, .int .i64 b, .int .i64 k, .int .i64 j, .bool g] W fun e W' => e = .returned (.bool (l.any (markS b k j g))) ∧ Drawn0 W W' := by
  have hl : l.length ≤ 9223372036854775807 := hC.2.1
  have HC := Lib.hid hC
  clear hC
  go_enter Try.func24, Try.ntmps24
  go_wp2_with fail
  go_loopw [11] (fun u wr => ∃ i : Nat, u = .int .i64 i ∧ i ≤ l.length ∧ Hid ((l.take i).any (markS b k j g) = false) ∧ Hid (Drawn0 W wr)) (fun u _ => l.length - (intOf u).toNat)
  case atStart => exact ⟨0, rfl, Nat.zero_le _, Lib.hid rfl, Lib.hid (drawn0_rfl W)⟩
  case round =>
    obtain ⟨i, rfl, hi, HN, HD⟩ := hrel
    by_cases hlt : i < l.length
    · have hci : l[i]? = some (rd_T66 l i) := by simp [rd_T66, List.getElem?_eq_getElem hlt, List.getD_eq_getElem?_getD]
      have hts : Hid (l.take (i + 1) = l.take i ++ [rd_T66 l i]) := Lib.hid (by rw [List.take_succ, hci]; rfl)
      obtain ⟨ad, A2, d2, A3, d3, rfl, hx0, hx1, hx2, hx3, hl2, hr2, hl3, hr3⟩ := at_T66 (Kd.C_below HC.out HD.out.below) (i : Int) (by omega) (by omega)
      rw [Int.toNat_natCast] at hx0 hx1 hx2 hx3
      have HMEM := Lib.hid (List.mem_of_getElem? hci)
      have HR2 := Lib.hid hr2
      have HR3 := Lib.hid hr3
      clear hci hr2 hr3
      obtain ⟨cc, hcc⟩ : ∃ cc, cc = rd_T66 l i := ⟨_, rfl⟩
      rw [← hcc] at hts hx0 hx1 hx2 hx3 hl2 hl3 HR2 HR3 HMEM
      have hsz2 : cc.f2.length ≤ 9223372036854775807 := HR2.out.2.1
      have hsz3 : cc.f3.length ≤ 9223372036854775807 := HR3.out.2.1
      clear hcc
      have fin : (mkS cc g).contains j = false ∨ ¬ (cc.f0 = b ∧ cc.f1 = k) → (l.take (i + 1)).any (markS b k j g) = false := fun h => by
        rw [hts.out, List.any_append, HN.out]
        simp only [List.any_cons, List.any_nil, Bool.or_false, Bool.false_or, markS]
        rcases h with h | h
        · rw [h]; simp
        · by_cases e1 : cc.f0 = b
          · by_cases e2 : cc.f1 = k
            · exact absurd ⟨e1, e2⟩ h
            · simp [e2]
          · simp [e1]
      have FIN := Lib.hid fin
      have yes : cc.f0 = b → cc.f1 = k → (mkS cc g).contains j = true → l.any (markS b k j g) = true := fun e1 e2 e3 =>
        List.any_eq_true.2 ⟨cc, HMEM.out, by simp only [markS, e1, e2, e3, decide_true, Bool.and_self]⟩
      have YES := Lib.hid yes
      clear fin yes
      cases g with
      | true =>
        go_wp2_with fail
        go_loopw [13] (fun u wr2 => ∃ t : Nat, u = .int .i64 t ∧ t ≤ cc.f2.length ∧ Hid (∀ x ∈ cc.f2.take t, x ≠ j) ∧ Hid (Drawn0 wr wr2)) (fun u _ => cc.f2.length - (intOf u).toNat)
        case atStart => exact ⟨0, rfl, Nat.zero_le _, Lib.hid (fun x hx => by cases hx), Lib.hid (drawn0_rfl _)⟩
        case round =>
          obtain ⟨t, rfl, ht, HT, HD2⟩ := hrel
          by_cases hlt2 : t < cc.f2.length
          · obtain ⟨z, hz⟩ : ∃ z, cc.f2[t]? = some z := ⟨_, List.getElem?_eq_getElem hlt2⟩
            have y0 := pw_cell_below HD2.out.below hx0
            have y1 := pw_cell_below HD2.out.below hx1
            by_cases e1 : cc.f0 = b
            · by_cases e2 : cc.f1 = k
              · obtain ⟨az, haz, hzc⟩ := Kd.at_int (Kd.C_below HR2.out HD2.out.below) (t : Int) (by omega) (by omega)
                rw [rd_nat, Int.toNat_natCast, show cc.f2.getD t 0 = z by rw [List.getD_eq_getElem?_getD, hz]; rfl] at hzc
                subst haz
                have d1 : (cc.f0 == b) = true := by simpa using e1
                have d2' : (cc.f1 == k) = true := by simpa using e2
                have d3' : cc.f0 = b := e1
                have d4' : cc.f1 = k := e2
                have HTS : Hid (∀ x ∈ cc.f2.take (t + 1), z ≠ j → x ≠ j) := Lib.hid (fun x hx hzj => by
                  rw [List.take_succ, hz] at hx
                  rcases List.mem_append.1 hx with hx | hx
                  · exact HT.out x hx
                  · have : x = z := by simpa using hx
                    rw [this]; exact hzj)
                have HZ : Hid (z ∈ cc.f2) := Lib.hid (List.mem_of_getElem? hz)
                clear hz
                by_cases e3 : z = j
                · have d5 : (z == j) = true := by simpa using e3
                  go_wp2_with fail
                  go_ret
                  refine ⟨?_, drawn0_trans HD.out HD2.out⟩
                  rw [YES.out e1 e2 (by simp only [mkS]; rw [← e3]; simpa using HZ.out)]
                  rfl
                · have d5 : (z == j) = false := by simpa using e3
                  go_wp2_with fail
                  go_roundw
                  case rel => exact ⟨t + 1, by go_num, by omega, Lib.hid (fun x hx => HTS.out x hx e3), HD2⟩
                  case measure => simp [intOf]; omega
              · have d1 : (cc.f0 == b) = true := by simpa using e1
                have d2' : (cc.f1 == k) = false := by simpa using e2
                have d3' : cc.f0 = b := e1
                have d4' : ¬ cc.f1 = k := e2
                go_wp2_with fail
                go_roundw
                case rel => exact ⟨i + 1, by go_num, by omega, Lib.hid (FIN.out (.inr (fun h => e2 h.2))), Lib.hid (drawn0_trans HD.out HD2.out)⟩
                case measure => simp [intOf]; omega
            · have d1 : (cc.f0 == b) = false := by simpa using e1
              have d3' : ¬ cc.f0 = b := e1
              go_wp2_with fail
              go_roundw
              case rel => exact ⟨i + 1, by go_num, by omega, Lib.hid (FIN.out (.inr (fun h => e1 h.1))), Lib.hid (drawn0_trans HD.out HD2.out)⟩
              case measure => simp [intOf]; omega
          · obtain rfl : t = cc.f2.length := by omega
            rw [List.take_length] at HT
            go_wp2_with fail
            go_roundw
            case rel => exact ⟨i + 1, by go_num, by omega, Lib.hid (FIN.out (.inl (by
              simp only [mkS]
              rw [Bool.eq_false_iff]
              intro h
              exact HT.out j (by simpa using h) rfl))), Lib.hid (drawn0_trans HD.out HD2.out)⟩
            case measure => simp [intOf]; omega
      | false =>
        go_wp2_with fail
        go_loopw [13] (fun u wr2 => ∃ t : Nat, u = .int .i64 t ∧ t ≤ cc.f3.length ∧ Hid (∀ x ∈ cc.f3.take t, x ≠ j) ∧ Hid (Drawn0 wr wr2)) (fun u _ => cc.f3.length - (intOf u).toNat)
        case atStart => exact ⟨0, rfl, Nat.zero_le _, Lib.hid (fun x hx => by cases hx), Lib.hid (drawn0_rfl _)⟩
        case round =>
          obtain ⟨t, rfl, ht, HT, HD2⟩ := hrel
          by_cases hlt2 : t < cc.f3.length
          · obtain ⟨z, hz⟩ : ∃ z, cc.f3[t]? = some z := ⟨_, List.getElem?_eq_getElem hlt2⟩
            have y0 := pw_cell_below HD2.out.below hx0
            have y1 := pw_cell_below HD2.out.below hx1
            by_cases e1 : cc.f0 = b
            · by_cases e2 : cc.f1 = k
              · obtain ⟨az, haz, hzc⟩ := Kd.at_int (Kd.C_below HR3.out HD2.out.below) (t : Int) (by omega) (by omega)
                rw [rd_nat, Int.toNat_natCast, show cc.f3.getD t 0 = z by rw [List.getD_eq_getElem?_getD, hz]; rfl] at hzc
                subst haz
                have d1 : (cc.f0 == b) = true := by simpa using e1
                have d2' : (cc.f1 == k) = true := by simpa using e2
                have d3' : cc.f0 = b := e1
                have d4' : cc.f1 = k := e2
                have HTS : Hid (∀ x ∈ cc.f3.take (t + 1), z ≠ j → x ≠ j) := Lib.hid (fun x hx hzj => by
                  rw [List.take_succ, hz] at hx
                  rcases List.mem_append.1 hx with hx | hx
                  · exact HT.out x hx
                  · have : x = z := by simpa using hx
                    rw [this]; exact hzj)
                have HZ : Hid (z ∈ cc.f3) := Lib.hid (List.mem_of_getElem? hz)
                clear hz
                by_cases e3 : z = j
                · have d5 : (z == j) = true := by simpa using e3
                  go_wp2_with fail
                  go_ret
                  refine ⟨?_, drawn0_trans HD.out HD2.out⟩
                  rw [YES.out e1 e2 (by simp only [mkS]; rw [← e3]; simpa using HZ.out)]
                  rfl
                · have d5 : (z == j) = false := by simpa using e3
                  go_wp2_with fail
                  go_roundw
                  case rel => exact ⟨t + 1, by go_num, by omega, Lib.hid (fun x hx => HTS.out x hx e3), HD2⟩
                  case measure => simp [intOf]; omega
              · have d1 : (cc.f0 == b) = true := by simpa using e1
                have d2' : (cc.f1 == k) = false := by simpa using e2
                have d3' : cc.f0 = b := e1
                have d4' : ¬ cc.f1 = k := e2
                go_wp2_with fail
                go_roundw
                case rel => exact ⟨i + 1, by go_num, by omega, Lib.hid (FIN.out (.inr (fun h => e2 h.2))), Lib.hid (drawn0_trans HD.out HD2.out)⟩
                case measure => simp [intOf]; omega
            · have d1 : (cc.f0 == b) = false := by simpa using e1
              have d3' : ¬ cc.f0 = b := e1
              go_wp2_with fail
              go_roundw
              case rel => exact ⟨i + 1, by go_num, by omega, Lib.hid (FIN.out (.inr (fun h => e1 h.1))), Lib.hid (drawn0_trans HD.out HD2.out)⟩
              case measure => simp [intOf]; omega
          · obtain rfl : t = cc.f3.length := by omega
            rw [List.take_length] at HT
            go_wp2_with fail
            go_roundw
            case rel => exact ⟨i + 1, by go_num, by omega, Lib.hid (FIN.out (.inl (by
              simp only [mkS]
              rw [Bool.eq_false_iff]
              intro h
              exact HT.out j (by simpa using h) rfl))), Lib.hid (drawn0_trans HD.out HD2.out)⟩
            case measure => simp [intOf]; omega
    · obtain rfl : i = l.length := by omega
      rw [List.take_length] at HN
      clear hlt hi
      go_wp2_with fail
      go_ret
      exact ⟨by rw [HN.out]; rfl, HD.out⟩
end Go.Proofs.Ythgnbeeobhfeaaa.T
end

section
/- Walks: the graph's contracts, as the printed texts ask for them. -/
namespace Go.Proofs.Ythgnbeeobhfeaaa.T
open Go.RowKit Go.Shelf Go.Proofs.YthgnbeeobhfeaaaW.PrintWords Go.Proofs.YthgnbeeobhfeaaaW.PrintLast

theorem N2.R {W : World} {B : Nat} {v : Value} {xss : List (List Bool)} {ok : Nat → Prop} (h : N2 W B v xss) (hok : ∀ (k t : Nat) (c : Array Value), B ≤ k → (t = 4 ∨ t = 26) → W.heap[k]? = some (.cells c t (0, 0)) → ok k) : (Kd.slice 4 Kd.bool).R 26 W B ok v xss := by
  obtain ⟨vs, ho, hvl, hin⟩ := h.own
  refine ⟨fun k e => ?_, vs, ho, by show vs.length = xss.length * 1; omega, fun j p hj => ?_⟩
  · obtain ⟨c, hc⟩ := own_typed ho k e
    exact hok k 26 c (own_base ho k e) (.inr rfl) hc
  · have hjl : j < vs.length := by rw [hvl]; exact (List.getElem?_eq_some_iff.1 hj).1
    have hju : vs[j]? = some vs[j] := List.getElem?_eq_getElem hjl
    refine ⟨vs[j], ?_, ?_⟩
    · show (vs.drop (j * 1)).take 1 = [vs[j]]
      rw [Nat.mul_one, List.drop_eq_getElem_cons hjl]
      rfl
    · have hu := hin j _ _ hju hj
      exact Kd.R_of_own (h1 := fun _ => rfl) (enc := Value.bool) hu (fun k e => by
        obtain ⟨c, hc⟩ := own_typed hu k e
        refine ⟨hok k 4 c (own_base hu k e) (.inl rfl) hc, fun e' => ?_⟩
        obtain ⟨c', hc'⟩ := own_typed ho k e'.symm
        rw [hc] at hc'
        injection hc' with hc'
        injection hc' with _ hc'
        cases hc')
theorem N3.N {W : World} {B : Nat} {v : Value} {xsss : List (List (List Bool))} (h : N3 W B v xsss) : Kd.N (Kd.slice 26 (Kd.slice 4 Kd.bool)) 44 W B (fun k => B ≤ k) v xsss := by
  refine Kd.R_N ?_
  obtain ⟨vs, ho, hvl, hin⟩ := h
  have ho' : W.ownsRow B 44 1 v xsss.length vs := by rw [← hvl]; exact ho
  refine ⟨fun k e => own_base ho k e, vs, ho', by show vs.length = xsss.length * 1; omega, fun j p hj => ?_⟩
  have hjl : j < vs.length := by rw [hvl]; exact (List.getElem?_eq_some_iff.1 hj).1
  have hju : vs[j]? = some vs[j] := List.getElem?_eq_getElem hjl
  refine ⟨vs[j], ?_, ?_⟩
  · show (vs.drop (j * 1)).take 1 = [vs[j]]
    rw [Nat.mul_one, List.drop_eq_getElem_cons hjl]
    rfl
  · exact N2.R (hin j _ _ hju hj) (fun k t c hk ht hc => ⟨hk, fun e' => by
      obtain ⟨c', hc'⟩ := own_typed ho k e'.symm
      rw [hc] at hc'
      injection hc' with hc'
      injection hc' with _ hc'
      rcases ht with rfl | rfl <;> cases hc'⟩)
theorem wfC_mem {l : List S66} (h : wfC l = true) : ∀ c ∈ l, inW c.f0 = true ∧ inW c.f1 = true := by
  simp only [wfC, List.all_eq_true, Bool.and_eq_true] at h
  exact h
theorem fewC_len {l : List S66} (h : fewC (chsOf l) = true) : l.length ≤ 1000 := by
  simp only [fewC, Bool.and_eq_true, decide_eq_true_eq] at h
  have := h.1
  simp only [chsOf, List.length_map] at this
  omega
theorem graph_Flow.calls (a0_0 : ByteArray) (a0_1 : Int) (A0_2 : Option Addr) (c0_2 : Nat) (l0_2 : List S142) (A0_3 : Option Addr) (c0_3 : Nat) (l0_3 : List S58) (a1 : Int) (A2 : Option Addr) (c2 : Nat) (l2 : List Bool) (A3 : Option Addr) (c3 : Nat) (l3 : List S66) (a4 : Bool) (r : List (List (List Bool))) (w : World)
    (hr0_2 : Kd.C k142 w A0_2 l0_2.length l0_2) (hc0_2 : l0_2.length ≤ c0_2) (hr0_3 : Kd.C k58 w A0_3 l0_3.length l0_3) (hc0_3 : l0_3.length ≤ c0_3) (hr2 : Kd.C Kd.bool w A2 l2.length l2) (hc2 : l2.length ≤ c2) (hr3 : Kd.C k66 w A3 l3.length l3) (hc3 : l3.length ≤ c3) (h : graph_Flow.f a0_0 a0_1 l0_2 l0_3 a1 l2 l3 a4 = some r) :
    Calls Try.prog 13 #[.agg #[.string a0_0, .int .i64 a0_1, .slice A0_2 l0_2.length c0_2, .slice A0_3 l0_3.length c0_3], .int .i64 a1, .slice A2 l2.length c2, .slice A3 l3.length c3, .bool a4] w fun e w' => ∃ v0_ : Value, e = .returned v0_ ∧ Kd.N (Kd.slice 26 (Kd.slice 4 Kd.bool)) 44 w' w.heap.size (fun k_ => w.heap.size ≤ k_) v0_ r ∧ Below w.heap.size w w' := by
  unfold graph_Flow.f at h
  split at h
  · rename_i hg
    injection h with h
    subst h
    refine (flow_any a0_0 a0_1 A0_2 l0_2.length c0_2 A0_3 c0_3 l0_3 a1 A2 c2 l2 A3 c3 l3 a4 w hr0_3 hg.1 hg.2.1 hr2 hc2 hr3 hc3 (fewC_len hg.2.2.1) (wfC_mem hg.2.2.2)).mono ?_
    rintro e w' ⟨v, rfl, hN, hb⟩
    exact ⟨v, rfl, hN.N, hb⟩
  · cases h
theorem graph_Back.calls (a0_0 : ByteArray) (a0_1 : Int) (A0_2 : Option Addr) (c0_2 : Nat) (l0_2 : List S142) (A0_3 : Option Addr) (c0_3 : Nat) (l0_3 : List S58) (a1 : Int) (A2 : Option Addr) (c2 : Nat) (l2 : List S66) (r : List (List (List Bool))) (w : World)
    (hr0_2 : Kd.C k142 w A0_2 l0_2.length l0_2) (hc0_2 : l0_2.length ≤ c0_2) (hr0_3 : Kd.C k58 w A0_3 l0_3.length l0_3) (hc0_3 : l0_3.length ≤ c0_3) (hr2 : Kd.C k66 w A2 l2.length l2) (hc2 : l2.length ≤ c2) (h : graph_Back.f a0_0 a0_1 l0_2 l0_3 a1 l2 = some r) :
    Calls Try.prog 16 #[.agg #[.string a0_0, .int .i64 a0_1, .slice A0_2 l0_2.length c0_2, .slice A0_3 l0_3.length c0_3], .int .i64 a1, .slice A2 l2.length c2] w fun e w' => ∃ v0_ : Value, e = .returned v0_ ∧ Kd.N (Kd.slice 26 (Kd.slice 4 Kd.bool)) 44 w' w.heap.size (fun k_ => w.heap.size ≤ k_) v0_ r ∧ Below w.heap.size w w' := by
  unfold graph_Back.f at h
  split at h
  · rename_i hg
    injection h with h
    subst h
    refine (back_any a0_0 a0_1 A0_2 l0_2.length c0_2 A0_3 c0_3 l0_3 a1 A2 c2 l2 w hr0_3 hg.1 hg.2.1 hr2 hc2 (fewC_len hg.2.2.1) (wfC_mem hg.2.2.2)).mono ?_
    rintro e w' ⟨v, rfl, hN, hb⟩
    exact ⟨v, rfl, hN.N, hb⟩
  · cases h
theorem graph_Preds.calls (a0_0 : ByteArray) (a0_1 : Int) (A0_2 : Option Addr) (c0_2 : Nat) (l0_2 : List S142) (A0_3 : Option Addr) (c0_3 : Nat) (l0_3 : List S58) (r : List (List Int)) (w : World)
    (hr0_2 : Kd.C k142 w A0_2 l0_2.length l0_2) (hc0_2 : l0_2.length ≤ c0_2) (hr0_3 : Kd.C k58 w A0_3 l0_3.length l0_3) (hc0_3 : l0_3.length ≤ c0_3) (h : graph_Preds.f a0_0 a0_1 l0_2 l0_3 = some r) :
    Calls Try.prog 18 #[.agg #[.string a0_0, .int .i64 a0_1, .slice A0_2 l0_2.length c0_2, .slice A0_3 l0_3.length c0_3]] w fun e w' => ∃ v0_ : Value, e = .returned v0_ ∧ Kd.N (Kd.slice 3 (Kd.int .i64)) 42 w' w.heap.size (fun k_ => w.heap.size ≤ k_) v0_ r ∧ Below w.heap.size w w' := by
  unfold graph_Preds.f at h
  split at h
  · rename_i hg
    injection h with h
    subst h
    refine (preds_any a0_0 a0_1 A0_2 l0_2.length c0_2 A0_3 c0_3 l0_3 w hr0_3 hg).mono ?_
    rintro e w' ⟨v, vs, rfl, hR, hb⟩
    exact ⟨v, rfl, Kd.R_N (hR.R (Value.int .i64) (fun _ => rfl) (by decide)), hb⟩
  · cases h
theorem graph_Reach.calls (a0_0 : ByteArray) (a0_1 : Int) (A0_2 : Option Addr) (c0_2 : Nat) (l0_2 : List S142) (A0_3 : Option Addr) (c0_3 : Nat) (l0_3 : List S58) (r : List Bool) (w : World)
    (hr0_2 : Kd.C k142 w A0_2 l0_2.length l0_2) (hc0_2 : l0_2.length ≤ c0_2) (hr0_3 : Kd.C k58 w A0_3 l0_3.length l0_3) (hc0_3 : l0_3.length ≤ c0_3) (h : graph_Reach.f a0_0 a0_1 l0_2 l0_3 = some r) :
    Calls Try.prog 20 #[.agg #[.string a0_0, .int .i64 a0_1, .slice A0_2 l0_2.length c0_2, .slice A0_3 l0_3.length c0_3]] w fun e w' => ∃ v0_ : Value, e = .returned v0_ ∧ Kd.R Kd.bool 4 w' w.heap.size (fun _ => True) v0_ r ∧ Below w.heap.size w w' := by
  unfold graph_Reach.f at h
  split at h
  · rename_i hg
    injection h with h
    subst h
    refine (reach_any a0_0 a0_1 A0_2 l0_2.length c0_2 A0_3 c0_3 l0_3 w hr0_3 hg).mono ?_
    rintro e w' ⟨v, rfl, hR, hb⟩
    exact ⟨v, rfl, Kd.R_of_own (h1 := fun _ => rfl) (enc := Value.bool) hR (fun _ _ => trivial), hb⟩
  · cases h
theorem cocoonlaw11_marked.calls (A0 : Option Addr) (c0 : Nat) (l0 : List S66) (a1 a2 a3 : Int) (a4 r : Bool) (w : World) (hr0 : Kd.C k66 w A0 l0.length l0) (hc0 : l0.length ≤ c0) (h : cocoonlaw11_marked.f l0 a1 a2 a3 a4 = some r) :
    Calls Try.prog 24 #[.slice A0 l0.length c0, .int .i64 a1, .int .i64 a2, .int .i64 a3, .bool a4] w fun e w' => e = .returned (.bool r) ∧ Drawn0 w w' := by
  injection h with h
  rw [marked_any_eq] at h
  subst h
  exact marked_any w A0 c0 l0 a1 a2 a3 a4 hr0
theorem cocoonlaw11_works.calls (r : Bool) (w : World) (h : cocoonlaw11_works.f = some r) : Calls Try.prog 10 #[] w fun e w' => e = .returned (.bool r) ∧ Below w.heap.size w w' := by
  injection h with h
  subst h
  exact works_any w
end Go.Proofs.Ythgnbeeobhfeaaa.T
end

section
/- Walks: more that starts gives no less. -/
namespace Go.Proofs.Ythgnbeeobhfeaaa.T
open Go.RowKit Go.Shelf Go.Proofs.YthgnbeeobhfeaaaW.PrintWords Go.Proofs.YthgnbeeobhfeaaaW.PrintLast

theorem below_drewN {n : Nat} {w w' : World} {k : Nat} (h : Below n w w') : Below n w (w'.drewN k) := by
  induction k with
  | zero => exact h
  | succ k ih => exact below_drew ih
theorem own_len {W : World} {B : Nat} {e : TypeId} {z : Nat} {v : Value} {n : Nat} {xs : List Value} (h : W.ownsRow B e z v n xs) : n ≤ 9223372036854775807 := by
  obtain ⟨_, ⟨_, rfl⟩ | ⟨g, cap, cur, _, _, _, h1, h2, _⟩⟩ := h
  · omega
  · have : maxLen = 9223372036854775807 := rfl
    omega
/-- Flags of either. -/
def bothL (a b : List Bool) (n : Nat) : List Bool := (List.range n).map fun i => a.getD i false || b.getD i false
theorem bothL_length (a b : List Bool) (n : Nat) : (bothL a b n).length = n := by simp [bothL]
theorem bothL_snoc (a b : List Bool) (n : Nat) : bothL a b (n + 1) = bothL a b n ++ [a.getD n false || b.getD n false] := by simp [bothL, List.range_succ]
theorem bothL_all (a b : List Bool) (j : Nat) (h : a.getD j false = true) : (bothL a b (max a.length b.length)).getD j false = true := by
  have hj : j < a.length := by
    rcases Nat.lt_or_ge j a.length with h' | h'
    · exact h'
    · rw [List.getD_eq_getElem?_getD, List.getElem?_eq_none h'] at h
      cases h
  rw [List.getD_eq_getElem?_getD, bothL, List.getElem?_map, List.getElem?_range (by omega), Option.map_some, Option.getD_some, h]
  rfl

set_option maxRecDepth 100000 in
set_option maxHeartbeats 16000000 in
theorem more_any (s : ByteArray) (p : Int) (A2 : Option Addr) (n2 c2 : Nat) (A3 : Option Addr) (c3 : Nat) (l03 : List S58) (n : Int) (As : Option Addr) (cst : Nat) (start : List Bool) (Am : Option Addr) (cm : Nat) (more : List Bool) (Al : Option Addr) (cl : Nat) (cs : List S66) (every : Bool) (w : World)
    (hC : Kd.C k58 w A3 l03.length l03) (hS : Kd.bool.C w As start.length start) (hs : start.length ≤ cst) (hM : Kd.bool.C w Am more.length more) (hm : more.length ≤ cm) (hCs : Kd.C k66 w Al cs.length cs) (hcl : cs.length ≤ cl) (hWs : ∀ c ∈ cs, inW c.f0 = true ∧ inW c.f1 = true) :
    Calls Try.prog 7 #[bodyV s p A2 n2 c2 A3 l03.length c3, .int .i64 n, .slice As start.length cst, .slice Am more.length cm, .slice Al cs.length cl, .bool every] w fun e w' => e = .returned (.bool true) ∧ Below w.heap.size w w' := by
  have HC := Lib.hid hC
  have HS := Lib.hid hS
  have HMO := Lib.hid hM
  have HCs := Lib.hid hCs
  have HWs := Lib.hid hWs
  have hls : start.length ≤ 9223372036854775807 := hS.2.1
  have hlm : more.length ≤ 9223372036854775807 := hM.2.1
  clear hC hS hM hCs hWs
  go_enter Try.func7, Try.ntmps7
  go_wp2_with fail
  have hbx : BoxIs (w.alloc (.cells (bodyC s p A2 n2 c2 A3 l03.length c3) 25)) w.heap.size (bodyC s p A2 n2 c2 A3 l03.length c3) 25 := heap_alloc_new w _
  have hlow := below_alloc (Below.refl w.heap.size w) (.cells (bodyC s p A2 n2 c2 A3 l03.length c3) 25)
  generalize w.alloc (.cells (bodyC s p A2 n2 c2 A3 l03.length c3) 25) = w1 at *
  refine (works_any w1).mono ?_
  rintro e w2 ⟨rfl, hb⟩
  replace hbx := hbx.below hb hbx.lt
  replace hlow := below_then hlow hlow.size hb
  clear hb
  have e0 := hbx.cell 0 _ rfl
  have e1 := hbx.cell 1 _ rfl
  have e2 := hbx.cell 2 _ rfl
  have e3 := hbx.cell 3 _ rfl
  have HBX := Lib.hid hbx
  have HLO := Lib.hid hlow
  clear hbx hlow
  go_wp2_with fail
  refine (over_any s p A2 n2 c2 A3 c3 l03 n Al cl cs w2 (Kd.C_below HC.out HLO.out) (Kd.C_below HCs.out HLO.out)).mono ?_
  rintro e w3 ⟨_, rfl, ⟨o, rfl, ho⟩, hb⟩
  have HBX3 := Lib.hid (HBX.out.below hb HBX.out.lt)
  have HLO3 := Lib.hid (below_then HLO.out HLO.out.size hb)
  clear hb HBX HLO e0 e1 e2 e3
  cases o with
  | true =>
    go_wp2_with fail
    go_ret
    exact ⟨rfl, HLO3.out⟩
  | false =>
    obtain ⟨hfew, hn30, hfc⟩ := ho rfl
    clear ho
    by_cases k1 : start.length > 30
    · have k1' : (start.length : Int) > 30 := by omega
      go_wp2_with fail
      go_ret
      exact ⟨rfl, HLO3.out⟩
    · by_cases k2 : more.length > 30
      · have k1' : ¬ ((start.length : Int) > 30) := by omega
        have k2' : (more.length : Int) > 30 := by omega
        go_wp2_with fail
        go_ret
        exact ⟨rfl, HLO3.out⟩
      · have k1' : ¬ ((start.length : Int) > 30) := by omega
        have k2' : ¬ ((more.length : Int) > 30) := by omega
        have hmx : (if (start.length : Int) < (more.length : Int) then (more.length : Int) else (start.length : Int)) = ((max start.length more.length : Nat) : Int) := by split <;> omega
        have hmx' : max (start.length : Int) (more.length : Int) = ((max start.length more.length : Nat) : Int) := by omega
        go_wp2_with fail
        clear k1' k2'
        go_loopw [15, 16] (fun u15 u16 wr => ∃ i : Nat, u16 = .int .i64 i ∧ i ≤ max start.length more.length ∧ Hid (OB wr w.heap.size u15 (bothL start more i)) ∧ Hid (Below w.heap.size w wr) ∧ Hid (BoxIs wr w.heap.size (bodyC s p A2 n2 c2 A3 l03.length c3) 25)) (fun _ u16 _ => max start.length more.length - (intOf u16).toNat)
        case atStart => exact ⟨0, rfl, Nat.zero_le _, Lib.hid (own_nil _ _ _ _), HLO3, HBX3⟩
        case round =>
          clear HLO3 HBX3
          obtain ⟨i, rfl, hi, HO, HLO4, HBX4⟩ := hrel
          by_cases hlt : i < max start.length more.length
          · have HO1 : Hid (wr.ownsRow w.heap.size 4 1 u15 (encs Value.bool (bothL start more i)).length (encs Value.bool (bothL start more i))) := Lib.hid (by rw [encs_length]; exact HO.out)
            have hlti : (i : Int) < ((max start.length more.length : Nat) : Int) := by omega
            have FIN : ∀ (v : Value) (w5 : World) (b : Bool), (start.getD i false || more.getD i false) = b → Hid (w5.ownsRow w.heap.size 4 1 v (encs Value.bool (bothL start more i) ++ [Value.bool b]).length (encs Value.bool (bothL start more i) ++ [Value.bool b])) → Hid (Below w.heap.size w w5) → Hid (wr.grownBy w5 u15.ownBlock) →
                Hid (OB w5 w.heap.size v (bothL start more (i + 1))) ∧ Hid (Below w.heap.size w w5) ∧ Hid (BoxIs w5 w.heap.size (bodyC s p A2 n2 c2 A3 l03.length c3) 25) := fun v w5 b hv h5 hb5 hg5 => by
              refine ⟨Lib.hid ?_, hb5, Lib.hid (HBX4.out.grown hg5.out (fun e => ?_))⟩
              · have h := h5.out
                rw [bothL_snoc, hv]
                unfold OB
                have e1 : encs Value.bool (bothL start more i ++ [b]) = encs Value.bool (bothL start more i) ++ [Value.bool b] := by simp [encs]
                rw [← e1, encs_length] at h
                exact h
              · obtain ⟨c, hc⟩ := own_typed HO.out _ e
                have h6 := HBX4.out
                unfold BoxIs at h6
                rw [hc] at h6
                injection h6 with h6
                injection h6 with _ h6
                cases h6
            by_cases k3 : i < start.length
            · obtain ⟨a, ha⟩ : ∃ a, start[i]? = some a := ⟨_, List.getElem?_eq_getElem k3⟩
              obtain ⟨as_, has, hsc⟩ := Kd.at_bool (Kd.C_below HS.out HLO4.out) (i : Int) (by omega) (by omega)
              rw [show rdOf false start (i : Int) = a by simp [rdOf, List.getD_eq_getElem?_getD, ha], Int.toNat_natCast] at hsc
              subst has
              have hga : start.getD i false = a := by rw [List.getD_eq_getElem?_getD, ha]; rfl
              rw [hga] at FIN
              have k3' : (i : Int) < (start.length : Int) := by omega
              clear ha hga
              cases a with
              | true =>
                go_wp2_with (first | (at_builtin; refine print_append (w0 := w) w.heap.size rfl (.tmp 50) (.tmp 73) 26 4 (.bool false) 1 rfl Try.underlying26 info4 rfl (by decide) u15 (encs Value.bool (bothL start more i)) _ rfl rfl rfl HO1.out HLO4.out HLO4.out.size (by rw [encs_length, bothL_length]; omega) ?_; intro v5 w5 ho5 hb5 hg5 _; have HO5 := Lib.hid ho5; have HB5 := Lib.hid hb5; have HG5 := Lib.hid hg5; clear ho5 hb5 hg5))
                go_roundw
                case rel => exact ⟨i + 1, by go_num, by omega, FIN _ _ _ (by simp) HO5 HB5 HG5⟩
                case measure => simp [intOf]; omega
              | false =>
                by_cases k4 : i < more.length
                · obtain ⟨b, hb⟩ : ∃ b, more[i]? = some b := ⟨_, List.getElem?_eq_getElem k4⟩
                  obtain ⟨am_, ham, hmc⟩ := Kd.at_bool (Kd.C_below HMO.out HLO4.out) (i : Int) (by omega) (by omega)
                  rw [show rdOf false more (i : Int) = b by simp [rdOf, List.getD_eq_getElem?_getD, hb], Int.toNat_natCast] at hmc
                  subst ham
                  have hgb : more.getD i false = b := by rw [List.getD_eq_getElem?_getD, hb]; rfl
                  rw [hgb] at FIN
                  have k4' : (i : Int) < (more.length : Int) := by omega
                  clear hb hgb
                  go_wp2_with (first | (at_builtin; refine print_append (w0 := w) w.heap.size rfl (.tmp 50) (.tmp 73) 26 4 (.bool false) 1 rfl Try.underlying26 info4 rfl (by decide) u15 (encs Value.bool (bothL start more i)) _ rfl rfl rfl HO1.out HLO4.out HLO4.out.size (by rw [encs_length, bothL_length]; omega) ?_; intro v5 w5 ho5 hb5 hg5 _; have HO5 := Lib.hid ho5; have HB5 := Lib.hid hb5; have HG5 := Lib.hid hg5; clear ho5 hb5 hg5))
                  go_roundw
                  case rel => exact ⟨i + 1, by go_num, by omega, FIN _ _ _ (by simp) HO5 HB5 HG5⟩
                  case measure => simp [intOf]; omega
                · have hgb : more.getD i false = false := by rw [List.getD_eq_getElem?_getD, List.getElem?_eq_none (by omega)]; rfl
                  rw [hgb] at FIN
                  have k4' : ¬ (i : Int) < (more.length : Int) := by omega
                  clear hgb
                  go_wp2_with (first | (at_builtin; refine print_append (w0 := w) w.heap.size rfl (.tmp 50) (.tmp 73) 26 4 (.bool false) 1 rfl Try.underlying26 info4 rfl (by decide) u15 (encs Value.bool (bothL start more i)) _ rfl rfl rfl HO1.out HLO4.out HLO4.out.size (by rw [encs_length, bothL_length]; omega) ?_; intro v5 w5 ho5 hb5 hg5 _; have HO5 := Lib.hid ho5; have HB5 := Lib.hid hb5; have HG5 := Lib.hid hg5; clear ho5 hb5 hg5))
                  go_roundw
                  case rel => exact ⟨i + 1, by go_num, by omega, FIN _ _ _ (by simp) HO5 HB5 HG5⟩
                  case measure => simp [intOf]; omega
            · have k4 : i < more.length := by omega
              obtain ⟨b, hb⟩ : ∃ b, more[i]? = some b := ⟨_, List.getElem?_eq_getElem k4⟩
              obtain ⟨am_, ham, hmc⟩ := Kd.at_bool (Kd.C_below HMO.out HLO4.out) (i : Int) (by omega) (by omega)
              rw [show rdOf false more (i : Int) = b by simp [rdOf, List.getD_eq_getElem?_getD, hb], Int.toNat_natCast] at hmc
              subst ham
              have hgb : more.getD i false = b := by rw [List.getD_eq_getElem?_getD, hb]; rfl
              have hga : start.getD i false = false := by rw [List.getD_eq_getElem?_getD, List.getElem?_eq_none (by omega)]; rfl
              rw [hgb, hga] at FIN
              have k3' : ¬ (i : Int) < (start.length : Int) := by omega
              have k4' : (i : Int) < (more.length : Int) := by omega
              clear hb hgb hga
              go_wp2_with (first | (at_builtin; refine print_append (w0 := w) w.heap.size rfl (.tmp 50) (.tmp 73) 26 4 (.bool false) 1 rfl Try.underlying26 info4 rfl (by decide) u15 (encs Value.bool (bothL start more i)) _ rfl rfl rfl HO1.out HLO4.out HLO4.out.size (by rw [encs_length, bothL_length]; omega) ?_; intro v5 w5 ho5 hb5 hg5 _; have HO5 := Lib.hid ho5; have HB5 := Lib.hid hb5; have HG5 := Lib.hid hg5; clear ho5 hb5 hg5))
              go_roundw
              case rel => exact ⟨i + 1, by go_num, by omega, FIN _ _ _ (by simp) HO5 HB5 HG5⟩
              case measure => simp [intOf]; omega
          · obtain rfl : i = max start.length more.length := by omega
            clear hlt hi
            obtain ⟨Ab, cb, hvb, hcb, hCb⟩ := OB.reads HO.out
            subst hvb
            have hbl := bothL_length start more (max start.length more.length)
            have hle := bothL_all start more
            generalize bothL start more (max start.length more.length) = both at *
            have HCB := Lib.hid hCb
            have HLE := Lib.hid hle
            have hcf := fewC_len hfc
            obtain ⟨N, hN⟩ : ∃ N : Nat, n.toNat = N := ⟨_, rfl⟩
            have hfl1 := flow_any s p A2 n2 c2 A3 c3 l03 n As cst start Al cl cs every wr (Kd.C_below HC.out HLO4.out) hfew hn30 (Kd.C_below HS.out HLO4.out) hs (Kd.C_below HCs.out HLO4.out) hcl hcf HWs.out
            rw [hN] at hfl1
            have HFL := Lib.hid hfl1
            have e0 := HBX4.out.cell 0 _ rfl
            have e1 := HBX4.out.cell 1 _ rfl
            have e2 := HBX4.out.cell 2 _ rfl
            have e3 := HBX4.out.cell 3 _ rfl
            clear hfl1 hCb hle HO
            have hbl' := hbl.symm
            clear hbl
            have hmxn : (if start.length < more.length then (more.length : Int) else (start.length : Int)) = (both.length : Int) := by rw [← hbl']; split <;> omega
            rw [hbl'] at hmx hmx' ⊢
            clear hbl'
            go_wp2_with fail
            refine HFL.out.mono ?_
            rintro e w5 ⟨v5, rfl, hN5, hb5⟩
            obtain ⟨Axx, cxx, rfl⟩ := hN5.slice
            rw [flowL_length, bksOf_length] at *
            have HLO5 := Lib.hid (below_then HLO4.out HLO4.out.size hb5)
            have hbx5 := HBX4.out.below hb5 HBX4.out.lt
            have hfl2 := flow_any s p A2 n2 c2 A3 c3 l03 n Ab cb both Al cl cs every w5 (Kd.C_below HC.out HLO5.out) hfew hn30 (Kd.C_below HCB.out hb5) hcb (Kd.C_below HCs.out HLO5.out) hcl hcf HWs.out
            rw [hN] at hfl2
            have HFL2 := Lib.hid hfl2
            have HN5 := Lib.hid hN5
            clear e0 e1 e2 e3 hb5 hfl2 HFL hN5 HBX4
            have e0 := hbx5.cell 0 _ rfl
            have e1 := hbx5.cell 1 _ rfl
            have e2 := hbx5.cell 2 _ rfl
            have e3 := hbx5.cell 3 _ rfl
            clear hbx5
            go_wp2_with fail
            refine HFL2.out.mono ?_
            rintro e w6 ⟨v6, rfl, hN6, hb6⟩
            obtain ⟨Ayy, cyy, rfl⟩ := hN6.slice
            rw [flowL_length, bksOf_length] at *
            have HLO6 := Lib.hid (below_then HLO5.out HLO5.out.size hb6)
            have HNX := Lib.hid (HN5.out.below hb6)
            have HNY := Lib.hid hN6
            have HFM : Hid (∀ (i : Nat) (X Y : List (List Bool)), (flowL (bksOf l03) N start (chsOf cs) every)[i]? = some X → (flowL (bksOf l03) N both (chsOf cs) every)[i]? = some Y → X.length = Y.length ∧ ∀ (k : Nat) (x y : List Bool), X[k]? = some x → Y[k]? = some y → x.length = y.length ∧ ∀ j : Nat, x[j]? = some true → y[j]? = some true) :=
              Lib.hid (fun i X Y hX hY => flow_more HLE.out hX hY)
            have hxl : Hid ((flowL (bksOf l03) N start (chsOf cs) every).length = l03.length) := Lib.hid (by rw [flowL_length, bksOf_length])
            have hyl : Hid ((flowL (bksOf l03) N both (chsOf cs) every).length = l03.length) := Lib.hid (by rw [flowL_length, bksOf_length])
            generalize flowL (bksOf l03) N start (chsOf cs) every = xsss at *
            generalize flowL (bksOf l03) N both (chsOf cs) every = ysss at *
            have hll : l03.length ≤ 9223372036854775807 := HC.out.2.1
            clear hb6 hN6 HFL2 HLO5 HN5 e0 e1 e2 e3 HLE HC HS HMO HCs HWs hfew hn30 hfc hcf hmx hmx' hmxn HCB HLO4 hN
            go_wp2_with fail
            go_loopw [19] (fun u wr => ∃ i : Nat, u = .int .i64 i ∧ i ≤ l03.length ∧ Hid (Below w6.heap.size w6 wr)) (fun u _ => l03.length - (intOf u).toNat)
            case atStart => exact ⟨0, rfl, Nat.zero_le _, Lib.hid (Below.refl _ _)⟩
            case round =>
              obtain ⟨i, rfl, hi, HW⟩ := hrel
              by_cases hlt : i < l03.length
              · obtain ⟨X, hX⟩ : ∃ X, xsss[i]? = some X := ⟨_, List.getElem?_eq_getElem (by have := hxl.out; omega)⟩
                obtain ⟨Y, hY⟩ : ∃ Y, ysss[i]? = some Y := ⟨_, List.getElem?_eq_getElem (by have := hyl.out; omega)⟩
                obtain ⟨hXY, hK⟩ := HFM.out i X Y hX hY
                obtain ⟨gx, cx', Ax, dx, ex, hcx, hnx⟩ := HNX.out.at_ hX
                obtain ⟨gy, cy', Ay, dy, ey, hcy, hny⟩ := HNY.out.at_ hY
                injection ex with ex1 ex2 ex3
                injection ey with ey1 ey2 ey3
                subst ex1 ey1
                clear ex2 ex3 ey2 ey3 hX hY
                rw [← hXY] at hcy hny
                have hsX : X.length ≤ 9223372036854775807 := own_len hnx.own.choose_spec.1
                have zx := pw_cell_below HW.out hcx
                have zy := pw_cell_below HW.out hcy
                have HNx := Lib.hid hnx
                have HNy := Lib.hid hny
                have HK := Lib.hid hK
                have HXY := Lib.hid hXY
                clear hnx hny hK hXY
                go_wp2_with fail
                go_quiet (fail)
                have HW2 : Hid (Below w6.heap.size w6 (wr.drewN nq)) := Lib.hid (below_drewN HW.out)
                clear zx zy HW
                go_wp2_with fail
                go_loopw [20] (fun u wr => ∃ k : Nat, u = .int .i64 k ∧ k ≤ X.length ∧ Hid (Below w6.heap.size w6 wr)) (fun u _ => X.length - (intOf u).toNat)
                case atStart => exact ⟨0, rfl, Nat.zero_le _, HW2⟩
                case round =>
                  clear HW2
                  obtain ⟨k, rfl, hk, HW⟩ := hrel
                  have zx := pw_cell_below HW.out hcx
                  have zy := pw_cell_below HW.out hcy
                  by_cases hlt2 : k < X.length
                  · obtain ⟨x, hx⟩ : ∃ x, X[k]? = some x := ⟨_, List.getElem?_eq_getElem hlt2⟩
                    obtain ⟨y, hy⟩ : ∃ y, Y[k]? = some y := ⟨_, List.getElem?_eq_getElem (by have := HXY.out; omega)⟩
                    obtain ⟨hxy, hJ⟩ := HK.out k x y hx hy
                    obtain ⟨hu, cu', Au, du, eu, hcu, hou⟩ := HNx.out.at_ hx
                    obtain ⟨hv, cv', Av, dv, ev, hcv, hov⟩ := HNy.out.at_ hy
                    injection eu with eu1 eu2 eu3
                    injection ev with ev1 ev2 ev3
                    subst eu1 ev1
                    clear eu2 eu3 ev2 ev3 hx hy
                    rw [← hxy] at hcv hov
                    have hsx : x.length ≤ 9223372036854775807 := own_len hou
                    have zu := pw_cell_below HW.out hcu
                    have zv := pw_cell_below HW.out hcv
                    have HOu := Lib.hid hou
                    have HOv := Lib.hid hov
                    have HJ := Lib.hid hJ
                    have HXy := Lib.hid hxy
                    clear hou hov hJ hxy
                    go_wp2_with fail
                    go_quiet (fail)
                    have HW2 : Hid (Below w6.heap.size w6 (wr.drewN nq)) := Lib.hid (below_drewN HW.out)
                    clear zx zy zu zv HW
                    go_wp2_with fail
                    go_loopw [21] (fun u wr => ∃ j : Nat, u = .int .i64 j ∧ j ≤ x.length ∧ Hid (Below w6.heap.size w6 wr)) (fun u _ => x.length - (intOf u).toNat)
                    case atStart => exact ⟨0, rfl, Nat.zero_le _, HW2⟩
                    case round =>
                      clear HW2
                      obtain ⟨j, rfl, hj, HW⟩ := hrel
                      have zx := pw_cell_below HW.out hcx
                      have zy := pw_cell_below HW.out hcy
                      have zu := pw_cell_below HW.out hcu
                      have zv := pw_cell_below HW.out hcv
                      by_cases hlt3 : j < x.length
                      · obtain ⟨a, ha⟩ : ∃ a, x[j]? = some a := ⟨_, List.getElem?_eq_getElem hlt3⟩
                        obtain ⟨b, hb⟩ : ∃ b, y[j]? = some b := ⟨_, List.getElem?_eq_getElem (by have := HXy.out; omega)⟩
                        have hab : a = true → b = true := fun e => by
                          subst e
                          have := HJ.out j ha
                          rw [hb] at this
                          exact Option.some.inj this
                        obtain ⟨ga, da, ea, hca⟩ := OB.at_ HOu.out ha
                        obtain ⟨gb, db, eb, hcb'⟩ := OB.at_ HOv.out hb
                        injection ea with ea1 ea2 ea3
                        injection eb with eb1 eb2 eb3
                        subst ea1 eb1
                        clear ea2 ea3 eb2 eb3 ha hb
                        have za := pw_cell_below HW.out hca
                        have zb := pw_cell_below HW.out hcb'
                        clear hca hcb'
                        cases a with
                        | true =>
                          obtain rfl := hab rfl
                          clear hab
                          go_wp2_with fail
                          go_roundw
                          case rel => exact ⟨j + 1, by go_num, by omega, HW⟩
                          case measure => first | (simp [intOf]; omega) | (simp [intOf]; done)
                        | false =>
                          clear hab
                          go_wp2_with fail
                          go_roundw
                          case rel => exact ⟨j + 1, by go_num, by omega, HW⟩
                          case measure => first | (simp [intOf]; omega) | (simp [intOf]; done)
                      · obtain rfl : j = x.length := by omega
                        clear hlt3 hj
                        go_wp2_with fail
                        go_roundw
                        case rel => exact ⟨k + 1, by go_num, by omega, HW⟩
                        case measure => first | (simp [intOf]; omega) | (simp [intOf]; done)
                  · obtain rfl : k = X.length := by omega
                    clear hlt2 hk
                    go_wp2_with fail
                    go_roundw
                    case rel => exact ⟨i + 1, by go_num, by omega, HW⟩
                    case measure => first | (simp [intOf]; omega) | (simp [intOf]; done)
              · obtain rfl : i = l03.length := by omega
                clear hlt hi
                go_wp2_with fail
                go_ret
                exact ⟨rfl, below_then HLO6.out HLO6.out.size HW.out⟩
end Go.Proofs.Ythgnbeeobhfeaaa.T
end
