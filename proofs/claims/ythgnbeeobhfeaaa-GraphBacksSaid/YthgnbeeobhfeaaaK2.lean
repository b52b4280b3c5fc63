/- Texts of this claim in one file: Gf, GR, GS, GQ, G1, GM. -/
import Derived.Test.YthgnbeeobhfeaaaK1
import Derived.Test.YthgnbeeobhfeaaaT0
import Derived.RangeFuncNested
import Derived.RangeFuncBound
import Derived.RangeFuncCalls
import Derived.RangeFuncLeaves
import Derived.Shelf.Abstract
import Derived.Shelf.RegionOpen
import Derived.WalkKit
import Derived.OwnWalkIn
import Derived.TacticsInMore
import Derived.LoopNIn
import Derived.LoopIn
import Derived.Orders
import Derived.OrdersHeld
import Derived.Deep.QuietTactic
import Derived.BigQuiet
import Derived.Lib.Hide
import Derived.Outline
import Derived.Test.YthgnbeeobhfeaaaT4
import Derived.Sort.LoopGhostIn
import Derived.Maps.OwnIn
import Derived.Maps.Keyed
import Derived.Maps.Own
import Derived.Deep.Draws
set_option linter.all false
section
/- What the graph's functions answer, as Lean functions. -/
namespace Go.Proofs.Ythgnbeeobhfeaaa.T
open Go.RowKit Go.Proofs.YthgnbeeobhfeaaaW.PrintWords Go.Proofs.YthgnbeeobhfeaaaW.PrintLast

def bksOf (l : List S58) : List Bk := l.map fun b => ⟨b.f0.length, b.f1.f5⟩
def chsOf (l : List S66) : List Ch := l.map fun c => ⟨c.f0, c.f1, c.f2, c.f3⟩
def chsOf' (l : List S90) : List Ch := l.map fun c => ⟨c.f0, c.f1, c.f2, c.f3⟩
theorem bksOf_length (l : List S58) : (bksOf l).length = l.length := by simp [bksOf]
/-- Few blocks, of few instructions, that go to few. -/
def fewB (l : List S58) : Bool := decide (l.length ≤ 30) && l.all fun b => decide (b.f0.length ≤ 30) && decide (b.f1.f5.length ≤ 30)
def fewC (cs : List Ch) : Bool := decide (cs.length ≤ 90) && cs.all fun c => decide (c.gen.length ≤ 30) && decide (c.kil.length ≤ 30)
theorem fewB_at {l : List S58} (h : fewB l = true) : l.length ≤ 30 ∧ ∀ b ∈ l, b.f0.length ≤ 30 ∧ b.f1.f5.length ≤ 30 := by
  simp only [fewB, Bool.and_eq_true, decide_eq_true_eq, List.all_eq_true] at h
  exact h

/-- Is it a number of 64 bits? -/
def inW (b : Int) : Bool := (Lit.int .i64 b).wf
def wfC (l : List S66) : Bool := l.all fun c => inW c.f0 && inW c.f1

noncomputable def graph_Preds.f (_ : ByteArray) (_ : Int) (_ : List S142) (l03 : List S58) : Option (List (List Int)) :=
  if fewB l03 = true then some ((List.range l03.length).map (predsL (bksOf l03))) else none
noncomputable def graph_Reach.f (_ : ByteArray) (_ : Int) (_ : List S142) (l03 : List S58) : Option (List Bool) :=
  if fewB l03 = true then some (reachL (bksOf l03)) else none
noncomputable def graph_Flow.f (_ : ByteArray) (_ : Int) (_ : List S142) (l03 : List S58) (a1 : Int) (l2 : List Bool) (l3 : List S66) (a4 : Bool) : Option (List (List (List Bool))) :=
  if fewB l03 = true ∧ a1 ≤ 30 ∧ fewC (chsOf l3) = true ∧ wfC l3 = true then some (flowL (bksOf l03) a1.toNat l2 (chsOf l3) a4) else none
noncomputable def cocoonref11_Flow.f (_ : ByteArray) (_ : Int) (_ : List S142) (l03 : List S58) (a1 : Int) (l2 : List Bool) (l3 : List S90) (a4 : Bool) : Option (List (List (List Bool))) :=
  if fewB l03 = true ∧ a1 ≤ 30 ∧ fewC (chsOf' l3) = true then some (flowL (bksOf l03) a1.toNat l2 (chsOf' l3) a4) else none
noncomputable def graph_Back.f (_ : ByteArray) (_ : Int) (_ : List S142) (l03 : List S58) (a1 : Int) (l2 : List S66) : Option (List (List (List Bool))) :=
  if fewB l03 = true ∧ a1 ≤ 30 ∧ fewC (chsOf l2) = true ∧ wfC l2 = true then some (backL (bksOf l03) a1.toNat (chsOf l2)) else none
noncomputable def cocoonref11_Back.f (_ : ByteArray) (_ : Int) (_ : List S142) (l03 : List S58) (a1 : Int) (l2 : List S90) : Option (List (List (List Bool))) :=
  if fewB l03 = true ∧ a1 ≤ 30 ∧ fewC (chsOf' l2) = true then some (backL (bksOf l03) a1.toNat (chsOf' l2)) else none
noncomputable def cocoonref11_Reach.f (_ : ByteArray) (_ : Int) (_ : List S142) (l03 : List S58) : Option (List Bool) :=
  if fewB l03 = true then some (reachL (bksOf l03)) else none
def cocoonref11_Same.f (l0 l1 : List (List (List Bool))) : Option Bool := some (decide (l0 = l1))
def cocoonlaw11_marked.f (l0 : List S66) (a1 a2 a3 : Int) (a4 : Bool) : Option Bool :=
  some ((hits (chsOf l0) a1 a2).any fun c => (if a4 then c.gen else c.kil).contains a3)
def cocoonlaw11_works.f : Option Bool := some true
end Go.Proofs.Ythgnbeeobhfeaaa.T
end

section
/- A region that draws its order, in a round of a loop over a function: by the plain laws. -/
namespace Go.Proofs.Ythgnbeeobhfeaaa
open Go.RowKit Go.Shelf

/-- No operation lays a call by. -/
def noDefer (ops : Array Oper) : Bool := ops.all fun o => match o.op with | .defer _ => false | _ => true
theorem noDefer_at {ops : Array Oper} (h : noDefer ops = true) {i : Nat} {o : Oper} (ho : ops[i]? = some o) : ∀ c, o.op ≠ .defer c := by
  intro c hc
  simp only [noDefer, Array.all_eq_true] at h
  obtain ⟨hi, he⟩ := Array.getElem?_eq_some_iff.1 ho
  have := h i hi
  rw [he, hc] at this
  cases this

/-- What comes to pass if all goes well. -/
def Well (K : Act → World → Prop) : Exit → Act → World → Prop := fun e a w => e = .normal ∧ K a w
theorem not_out {K : Act → World → Prop} : ¬ LetsOut (Well K) := fun ⟨_, _, h⟩ => by cases h.1

theorem opsIn_round {P : Program} {ops : Array Oper} {K : Act → World → Prop} {l0 n : Nat} (hd : noDefer ops = true) : ∀ (l : List Nat) (a : Act) (w : World),
    wpOps P ops (Well K) l a w → wpOpsIn (Fence.wide.inRound l0) n P ops (Well K) l a w := by
  intro l
  induction l with
  | nil => exact fun a w h => h
  | cons i rest ih =>
    intro a w h
    simp only [wpOps] at h
    simp only [wpOpsIn]
    cases ho : ops[i]? with
    | none =>
      simp only [ho] at h
      exact ih a w h
    | some o =>
      simp only [ho] at h
      by_cases hw : Region.wanted o (yielded ops a.tmps) = true
      · simp only [hw, if_true] at h ⊢
        rcases h with h | ⟨_, hq⟩
        case inr => exact absurd hq not_out
        refine ⟨fun _ _ => trivial, ?_⟩
        rw [Oper.semAt_eq _ _ _ (noDefer_at hd ho)]
        unfold Oper.wp at h
        generalize (execOp a.eval o).run P w = r at *
        cases r with
        | ok x w' =>
          cases x <;> simp only [Oper.upon, Oper.uponIn] at h ⊢
          case value v => exact ih _ _ h
          case skip => exact ih _ _ h
          case defer d => exact ih _ _ h
          case enter f args =>
            refine ⟨(fun h0 => by cases h0), CallsIn.inRound l0 (callsIn_wide.2 (h.mono fun e w'' he => ?_))⟩
            cases e with
            | returned v => exact ih _ _ he
            | panicked c => cases he.1
            | outgrown => exact absurd he not_out
          case row row args =>
            refine ⟨(fun h0 => by cases h0), fun c cs _ => ?_⟩
            obtain ⟨v, w'', hR, hs⟩ := h c cs
            exact ⟨v, w'', ih _ _ hR, stepsIn_wide.2 hs⟩
        | halt x w' =>
          cases x <;> simp only [Oper.upon, Oper.uponIn] at h ⊢
          case panic v => cases h.1
      · simp only [hw] at h ⊢
        exact ⟨fun _ _ => trivial, ih _ _ h⟩

/-- A region that draws its order, in a round. -/
theorem round_region {P : Program} {ops : Array Oper} {K : Act → World → Prop} {Q : Exit → Act → World → Prop} {l0 n id : Nat} {a : Act} {w : World} (hm : P.follows .mixedOrders = true) (hd : noDefer ops = true)
    (h : wpAny P .any ops (Well K) ops.size (Array.replicate ops.size false) a { w with drawn := w.drawn + 1 }) (hK : ∀ a w, K a w → Q .normal a w) : (Code.region id ops true).wpIn (Fence.wide.inRound l0) n P Q a w := by
  refine wpIn_mono (Q := Well K) ?_ (fun e a w hq => by rw [hq.1]; exact hK a w hq.2)
  refine wpIn_region_draw fun t => opsIn_round hd _ _ _ ?_
  simp only [Region.schedule, hm, Bool.true_or, if_true]
  exact wpAny_sound ops.size t _ a _ h

end Go.Proofs.Ythgnbeeobhfeaaa
end

section
/- A region that draws its order, in a round: by what is held; and small words. -/
namespace Go.Proofs.Ythgnbeeobhfeaaa.T
open Go.RowKit Go.Proofs.YthgnbeeobhfeaaaW.PrintWords Go.Proofs.YthgnbeeobhfeaaaW.PrintLast

theorem round_start {P : Program} {ops : Array Oper} {S : World → Prop} {ds : List Nat} {Q : Exit → Act → World → Prop} {l0 nn : Nat} {id n : Nat} {a : Act} {w : World} (hd : noDefer ops = true) (l : Array Bool) (hm : P.follows .mixedOrders = true) (hn : ops.size = n) (hl : Array.replicate n false = l) (hS : S w.drew)
    (h : S w.drew → wpAnyLast P .any ops (Well fun a w => Q .normal a w) S ds n l a w.drew) : (Code.region id ops true).wpIn (Fence.wide.inRound l0) nn P Q a w := by
  subst hn
  subst hl
  exact round_region (K := fun a w => Q .normal a w) hm hd (wpAny_of_last _ _ _ _ (h hS)) (fun _ _ h => h)

theorem wrap_up {i : Int} {n : Nat} (h0 : 0 ≤ i) (h : i < (n : Int)) (hn : n ≤ 9223372036854775807) : wrap64 (i + 1) = i + 1 := by unfold wrap64; omega
theorem index_from (l : List Int) (a : Int) (hn : l.length ≤ 9223372036854775807) (d : Nat) : ∀ (k i : Nat), i ≤ l.length → l.length - i = d → d < k →
    ∃ r : Int, slices_Index_int_int.l0 k l a (l.length : Int) (i : Int) = some r ∧ (0 ≤ r ↔ a ∈ l.drop i) := by
  induction d with
  | zero =>
    intro k i hi hd hk
    obtain ⟨k, rfl⟩ : ∃ m, k = m + 1 := ⟨k - 1, by omega⟩
    refine ⟨-1, by simp only [slices_Index_int_int.l0]; rw [if_neg (by omega)], ?_⟩
    rw [List.drop_eq_nil_of_le (by omega)]
    simp
  | succ d ih =>
    intro k i hi hd hk
    obtain ⟨k, rfl⟩ : ∃ m, k = m + 1 := ⟨k - 1, by omega⟩
    have hlt : i < l.length := by omega
    have hr : rd l (i : Int) = l[i] := by simp [rd, List.getD_eq_getElem?_getD, List.getElem?_eq_getElem hlt]
    have hw : wrap64 ((i : Int) + 1) = ((i + 1 : Nat) : Int) := by rw [wrap_up (n := l.length) (by omega) (by omega) hn]; omega
    rw [List.drop_eq_getElem_cons hlt, List.mem_cons]
    by_cases e : a = l[i]
    · refine ⟨i, by simp only [slices_Index_int_int.l0]; rw [if_pos (by omega), if_pos (by omega), if_pos (by omega), hr, if_pos e], ?_⟩
      exact ⟨fun _ => .inl e, fun _ => by omega⟩
    · obtain ⟨r, h1, h2⟩ := ih k (i + 1) (by omega) (by omega) (by omega)
      refine ⟨r, by simp only [slices_Index_int_int.l0]; rw [if_pos (by omega), if_pos (by omega), if_pos (by omega), hr, if_neg e, hw]; exact h1, ?_⟩
      rw [h2]
      exact ⟨.inr, fun h => h.resolve_left e⟩
theorem contains_f (l : List Int) (a : Int) (hn : l.length ≤ 9223372036854775807) : slices_Contains_int_int.f (l.length + 1) l a = some (decide (a ∈ l)) := by
  obtain ⟨r, h1, h2⟩ := index_from l a hn l.length (l.length + 1) 0 (by omega) (by omega) (by omega)
  unfold slices_Contains_int_int.f slices_Index_int_int.f
  rw [show ((0 : Nat) : Int) = 0 from rfl] at h1
  rw [h1]
  simp only [Option.bind_some]
  rw [List.drop_zero] at h2
  simp only [ge_iff_le, Option.some.injEq]
  exact decide_eq_decide.2 h2
theorem contains_any (A : Option Addr) (c : Nat) (l : List Int) (a : Int) (w : World) (h : (Kd.int .i64).C w A l.length l) (hc : l.length ≤ c) :
    Calls Try.prog 48 #[.slice A l.length c, .int .i64 a] w fun e w' => e = .returned (.bool (decide (a ∈ l))) ∧ Drawn0 w w' :=
  slices_Contains_int_int.calls (l.length + 1) A c l a _ w h hc (contains_f l a h.2.1)
end Go.Proofs.Ythgnbeeobhfeaaa.T
end

section
/- Marks that loops over functions leave; rows of rows of the call's own. -/
namespace Go.Proofs.Ythgnbeeobhfeaaa.T
open Go.RowKit Go.Proofs.YthgnbeeobhfeaaaW.PrintWords Go.Proofs.YthgnbeeobhfeaaaW.PrintLast

/-! ### Marks -/
def markOf (D : Nat) : Deferred := { target := .collected D, args := #[] }
/-- The deferred calls are marks, each open. -/
structure Marks (lo hi : Nat) (W : World) (ds : List Deferred) : Prop where
  out : ∃ Ds : List Nat, ds = Ds.map markOf ∧ Ds.Nodup ∧ ∀ D ∈ Ds, lo ≤ D ∧ D < hi ∧ W.heap[D]? = some (.deferred (some []))
theorem Marks.nil (lo hi : Nat) (W : World) : Marks lo hi W [] := ⟨[], rfl, List.nodup_nil, fun _ h => by cases h⟩
theorem Marks.upto {lo hi hi' : Nat} {W : World} {ds : List Deferred} (h : Marks lo hi W ds) (hh : hi ≤ hi') : Marks lo hi' W ds := by
  obtain ⟨Ds, e, hn, hd⟩ := h
  exact ⟨Ds, e, hn, fun D hD => ⟨(hd D hD).1, by have := (hd D hD).2.1; omega, (hd D hD).2.2⟩⟩
theorem Marks.keeps {lo hi B : Nat} {W W' : World} {ds : List Deferred} (h : Marks lo hi W ds) (hk : KeepsFrom B W W') (hB : B ≤ lo) : Marks lo hi W' ds := by
  obtain ⟨Ds, e, hn, hd⟩ := h
  exact ⟨Ds, e, hn, fun D hD => ⟨(hd D hD).1, (hd D hD).2.1, hk.same D _ (Nat.le_trans hB (hd D hD).1) (hd D hD).2.2 rfl⟩⟩
/-- What is written is cells, or younger. -/
theorem Marks.grown {lo hi : Nat} {W W' : World} {ds : List Deferred} {row : Option Nat} (h : Marks lo hi W ds) (hg : W.grownBy W' row) (hr : ∀ k, row = some k → hi ≤ k ∨ ∃ c t z, W.heap[k]? = some (.cells c t z)) : Marks lo hi W' ds := by
  obtain ⟨Ds, e, hn, hd⟩ := h
  refine ⟨Ds, e, hn, fun D hD => ⟨(hd D hD).1, (hd D hD).2.1, (hg.block D (Array.getElem?_eq_some_iff.1 (hd D hD).2.2).1 (fun e' => ?_)).trans (hd D hD).2.2⟩⟩
  rcases hr D e'.symm with h1 | ⟨c, t, z, hc⟩
  · have := (hd D hD).2.1
    omega
  · rw [(hd D hD).2.2] at hc
    cases hc
/-- A mark more: its block is younger than the others. -/
theorem Marks.cons {lo hi hi' D : Nat} {W : World} {ds : List Deferred} (h : Marks lo hi W ds) (hD : hi ≤ D) (hl : lo ≤ D) (hD' : D < hi') (hb : W.heap[D]? = some (.deferred (some []))) : Marks lo hi' W (markOf D :: ds) := by
  obtain ⟨Ds, e, hn, hd⟩ := h
  refine ⟨D :: Ds, by rw [e]; rfl, List.nodup_cons.2 ⟨fun hm => ?_, hn⟩, ?_⟩
  · have := (hd D hm).2.1
    omega
  · intro D' hm
    rcases List.mem_cons.1 hm with rfl | hm
    · exact ⟨hl, hD', hb⟩
    · exact ⟨(hd D' hm).1, by have := (hd D' hm).2.1; omega, (hd D' hm).2.2⟩
/-- Only marks have been shut: nothing that is cells, and nothing below B. -/
structure Shut0 (B : Nat) (W W' : World) : Prop where
  os : W'.os = W.os
  tape : W'.tape = W.tape
  output : W'.output = W.output
  size : W'.heap.size = W.heap.size
  block : ∀ k, (k < B ∨ ∃ c t z, W.heap[k]? = some (.cells c t z)) → W'.heap[k]? = W.heap[k]?
theorem Shut0.refl (B : Nat) (W : World) : Shut0 B W W := ⟨rfl, rfl, rfl, rfl, fun _ _ => rfl⟩
theorem Shut0.below {B B0 : Nat} {W0 W W' : World} (h : Shut0 B W W') (hb : Below B0 W0 W) (hB : B0 ≤ B) : Below B0 W0 W' := by
  refine hb.trans ⟨h.os, h.tape, h.output, by rw [h.size]; exact Nat.le_refl _, fun k hk => h.block k (.inl (by omega))⟩
theorem Shut0.own {B : Nat} {W W' : World} {b : Nat} {e : TypeId} {s n : Nat} {v : Value} {xs : List Value} (h : Shut0 B W W') (ho : W.ownsRow b e s v n xs) : W'.ownsRow b e s v n xs :=
  own_move ho (fun k hk => by
    obtain ⟨c, hc⟩ := own_typed ho k hk
    exact h.block k (.inr ⟨c, e, (0, 0), hc⟩))
theorem leaves_marks {F : Fence} {n : Nat} {P : Program} {fn : Func} {tmps : Array Value} {R : Ending → World → Prop} {B : Nat} {v : Value} (hv : ∀ w, (results fn tmps).run P w = .ok v w) :
    ∀ (Ds : List Nat) (W0 W : World), Ds.Nodup → (∀ D ∈ Ds, B ≤ D ∧ W.heap[D]? = some (.deferred (some []))) → Shut0 B W0 W → (∀ W', Shut0 B W0 W' → R (.returned v) W') → LeavesInM F n P fn tmps R (Ds.map markOf) .returning W := by
  intro Ds
  induction Ds with
  | nil => exact fun W0 W _ _ hs hR => ⟨v, hv W, hR W hs⟩
  | cons D Ds ih =>
    intro W0 W hn hd hs hR
    have hD := hd D List.mem_cons_self
    refine ⟨by simp, .inl ⟨D, _, rfl, run_takeDeferred hD.2, ?_⟩⟩
    refine ih W0 _ (List.nodup_cons.1 hn).2 (fun D' hD' => ⟨(hd D' (List.mem_cons_of_mem _ hD')).1, ?_⟩) ?_ hR
    · rw [World.putObj_heap_other (fun e => (List.nodup_cons.1 hn).1 (by rw [← e]; exact hD'))]
      exact (hd D' (List.mem_cons_of_mem _ hD')).2
    · refine ⟨hs.os, hs.tape, hs.output, by rw [World.putObj_size]; exact hs.size, fun k hk => ?_⟩
      have h1 := hs.block k hk
      refine (World.putObj_heap_other (fun e => ?_)).trans h1
      rcases hk with hk | ⟨c, t, z, hk⟩
      · have := hD.1
        omega
      · rw [hk, e, hD.2] at h1
        cases h1
theorem Marks.leaves {F : Fence} {n : Nat} {P : Program} {fn : Func} {tmps : Array Value} {R : Ending → World → Prop} {lo hi : Nat} {W : World} {ds : List Deferred} (h : Marks lo hi W ds) (v : Value) (hv : ∀ w, (results fn tmps).run P w = .ok v w)
    (hR : ∀ W', Shut0 lo W W' → R (.returned v) W') : LeavesInM F n P fn tmps R ds .returning W := by
  obtain ⟨Ds, rfl, hn, hd⟩ := h
  exact leaves_marks hv Ds W W hn (fun D hD => ⟨(hd D hD).1, (hd D hD).2.2⟩) (Shut0.refl _ _) hR

/-! ### What is kept -/
theorem keeps_grown {B : Nat} {W W' : World} {row : Option Nat} (hg : W.grownBy W' row) (hr : ∀ k, row = some k → ∃ c t z, W.heap[k]? = some (.cells c t z)) : KeepsFrom B W W' := by
  refine ⟨hg.size, fun k o _ hk ho => (hg.block k (Array.getElem?_eq_some_iff.1 hk).1 (fun e => ?_)).trans hk⟩
  obtain ⟨c, t, z, hc⟩ := hr k e.symm
  rw [hk] at hc
  cases hc
  cases ho
theorem keeps_below {B : Nat} {W W' : World} (h : Below W.heap.size W W') : KeepsFrom B W W' := keeps_grown (grown_of_below h none) (fun _ e => by cases e)
/-- A box: one cell of its type. -/
def BoxIs (W : World) (g : Nat) (cs : Array Value) (t : TypeId) : Prop := W.heap[g]? = some (.cells cs t (0, 0))
theorem BoxIs.lt {W : World} {g : Nat} {cs : Array Value} {t : TypeId} (h : BoxIs W g cs t) : g < W.heap.size := (Array.getElem?_eq_some_iff.1 h).1
theorem BoxIs.grown {W W' : World} {g : Nat} {cs : Array Value} {t : TypeId} {row : Option Nat} (h : BoxIs W g cs t) (hg : W.grownBy W' row) (hne : row ≠ some g) : BoxIs W' g cs t := (hg.block g h.lt (fun e => hne e.symm)).trans h
theorem BoxIs.below {W W' : World} {g B : Nat} {cs : Array Value} {t : TypeId} (h : BoxIs W g cs t) (hb : Below B W W') (hg : g < B) : BoxIs W' g cs t := (hb.block g hg).trans h
theorem BoxIs.cell {W : World} {g : Nat} {cs : Array Value} {t : TypeId} (h : BoxIs W g cs t) (j : Nat) (v : Value) (hv : cs[j]? = some v) : W.cell? ⟨g, j, none⟩ = some v := (blk_cell h j).trans hv
theorem BoxIs.shut {W W' : World} {B g : Nat} {cs : Array Value} {t : TypeId} (h : BoxIs W g cs t) (hs : Shut0 B W W') : BoxIs W' g cs t := (hs.block g (.inr ⟨_, _, _, h⟩)).trans h

/-! ### Rows of rows -/
/-- A row (elements of type e2) of rows (of type e1) of the call's own, no two of which are one. -/
structure RR (W : World) (B e1 e2 : Nat) (ok : Nat → Prop) (v : Value) (vs : List Value) (xss : List (List Value)) : Prop where
  own : W.ownsRow B e2 1 v vs.length vs
  len : vs.length = xss.length
  inn : ∀ (i : Nat) (u : Value) (xs : List Value), vs[i]? = some u → xss[i]? = some xs → W.ownsRow B e1 1 u xs.length xs
  apart : ∀ (i j : Nat) (u u' : Value) (k : Nat), i ≠ j → vs[i]? = some u → vs[j]? = some u' → u.ownBlock = some k → u'.ownBlock ≠ some k
  okv : ∀ k, v.ownBlock = some k → ok k
  oki : ∀ u ∈ vs, ∀ k, u.ownBlock = some k → ok k
section
variable {W W' W1 : World} {B e1 e2 i g n cap : Nat} {ok ok' : Nat → Prop} {u u1 v : Value} {vs xs ys : List Value} {xss : List (List Value)}
theorem RR.mono (h : RR W B e1 e2 ok v vs xss) (hk : ∀ k, ok k → ok' k) : RR W B e1 e2 ok' v vs xss := ⟨h.own, h.len, h.inn, h.apart, fun k e => hk k (h.okv k e), fun u hu k e => hk k (h.oki u hu k e)⟩
theorem RR.elt (h : RR W B e1 e2 ok v vs xss) (hu : vs[i]? = some u) : ∃ xs, xss[i]? = some xs ∧ W.ownsRow B e1 1 u xs.length xs := by
  have hi : i < xss.length := by rw [← h.len]; exact (List.getElem?_eq_some_iff.1 hu).1
  exact ⟨_, List.getElem?_eq_getElem hi, h.inn i u _ hu (List.getElem?_eq_getElem hi)⟩
/-- Each of its blocks, with its type. -/
theorem RR.typed (h : RR W B e1 e2 ok v vs xss) (hu : u ∈ vs) (k : Nat) (e : u.ownBlock = some k) : ∃ c, W.heap[k]? = some (.cells c e1 (0, 0)) := by
  obtain ⟨i, hi, rfl⟩ := List.getElem_of_mem hu
  obtain ⟨xs, _, ho⟩ := h.elt (List.getElem?_eq_getElem hi)
  exact own_typed ho k e
theorem RR.move (h : RR W B e1 e2 ok v vs xss) (hm : ∀ k, ok k → k < W.heap.size → W'.heap[k]? = W.heap[k]?) : RR W' B e1 e2 ok v vs xss := by
  refine ⟨own_move h.own (fun k e => hm k (h.okv k e) (own_lt h.own k e)), h.len, fun i u xs hu hx => ?_, h.apart, h.okv, h.oki⟩
  have ho := h.inn i u xs hu hx
  exact own_move ho (fun k e => hm k (h.oki u (List.mem_of_getElem? hu) k e) (own_lt ho k e))
theorem RR.grown (h : RR W B e1 e2 ok v vs xss) {row : Option Nat} (hg : W.grownBy W' row) (hr : ∀ k, row = some k → ¬ ok k) : RR W' B e1 e2 ok v vs xss :=
  h.move (fun k hk hlt => hg.block k hlt (fun e => hr k e.symm hk))
theorem RR.below (h : RR W B e1 e2 ok v vs xss) (hb : Below W.heap.size W W') : RR W' B e1 e2 ok v vs xss := h.move (fun k _ hlt => hb.block k hlt)
/-- Whatever is written is no cells. -/
theorem RR.quiet (h : RR W B e1 e2 ok v vs xss) (hm : ∀ (k : Nat) (c : Array Value) (t : TypeId) (z : Nat × Nat), W.heap[k]? = some (.cells c t z) → W'.heap[k]? = W.heap[k]?) : RR W' B e1 e2 ok v vs xss := by
  refine ⟨own_move h.own (fun k e => ?_), h.len, fun i u xs hu hx => ?_, h.apart, h.okv, h.oki⟩
  · obtain ⟨c, hc⟩ := own_typed h.own k e
    exact hm k _ _ _ hc
  · have ho := h.inn i u xs hu hx
    refine own_move ho (fun k e => ?_)
    obtain ⟨c, hc⟩ := own_typed ho k e
    exact hm k _ _ _ hc
theorem RR.form (h : RR W B e1 e2 ok v vs xss) (hp : 0 < vs.length) : ∃ g cap, v = .slice (some ⟨g, 0, none⟩) vs.length cap ∧ B ≤ g ∧ g < W.heap.size := h.own.form hp
theorem RR.cell (h : RR W B e1 e2 ok (.slice (some ⟨g, 0, none⟩) n cap) vs xss) (hu : vs[i]? = some u) : W.cell? ⟨g, i, none⟩ = some u := by
  have := h.own.cells (g := g) rfl i u hu
  rwa [add_plain] at this
theorem RR.frozen (h : RR W B e1 e2 ok (.slice (some ⟨g, 0, none⟩) n cap) vs xss) : W.frozen? ⟨g, i, none⟩ = false := by
  obtain ⟨c, hc⟩ := own_typed h.own g rfl
  simp [World.frozen?, hc]
/-- An element's row has been written (or made anew), and the element is laid. -/
theorem RR.put (h : RR W B e1 e2 ok (.slice (some ⟨g, 0, none⟩) n cap) vs xss) (hne : e1 ≠ e2) (hu : vs[i]? = some u) (ho : W1.ownsRow B e1 1 u1 ys.length ys) (hg : W.grownBy W1 u.ownBlock) (hat : u1.ownBlock = u.ownBlock ∨ ∃ b, u1.ownBlock = some b ∧ W.heap.size ≤ b)
    (hfr : ∀ k, W.heap.size ≤ k → ok k) : RR (W1.setCell ⟨g, i, none⟩ u1) B e1 e2 ok (.slice (some ⟨g, 0, none⟩) n cap) (vs.set i u1) (xss.set i ys) := by
  have hn : n = vs.length := by
    rcases h.own.2 with ⟨h', _⟩ | ⟨g', cap', cur, h', _⟩
    · cases h'
    · injection h'
  subst hn
  have hi : i < vs.length := (List.getElem?_eq_some_iff.1 hu).1
  have hgu : ∀ k, u.ownBlock = some k → k ≠ g := fun k e hk => by
    obtain ⟨c, hc⟩ := h.typed (List.mem_of_getElem? hu) k e
    obtain ⟨c', hc'⟩ := own_typed h.own g rfl
    rw [hk, hc'] at hc
    injection hc with hc
    injection hc with _ hc
    exact hne hc.symm
  have hg1 : g < W.heap.size := own_lt h.own g rfl
  have hown : W1.ownsRow B e2 1 (.slice (some ⟨g, 0, none⟩) vs.length cap) vs.length vs := own_move h.own (fun k e => hg.block k (own_lt h.own k e) (fun e' => hgu k e'.symm (by simpa [Value.ownBlock] using e.symm)))
  have hs := hown.stored i u1
  have hu1g : ∀ k, u1.ownBlock = some k → k ≠ g := fun k e => by
    rcases hat with hat | ⟨b, hb, hle⟩
    · exact hgu k (hat ▸ e)
    · rw [hb] at e; injection e with e; omega
  have hown' : W1.ownsRow B e1 1 u1 ys.length ys := ho
  refine ⟨by rw [List.length_set]; exact hs.1, by rw [List.length_set, List.length_set]; exact h.len, ?_, ?_, h.okv, ?_⟩
  · intro j u' xs hu' hx
    rcases Nat.decEq i j with hij | rfl
    · rw [List.getElem?_set_ne hij] at hu' hx
      have ho' := h.inn j u' xs hu' hx
      refine own_move (own_move (w1 := W1) ho' (fun k e => hg.block k (own_lt ho' k e) (fun e' => h.apart i j u u' k hij hu hu' e'.symm e))) (fun k e => Below.heap_setCell W1 _ u1 k (fun e' => ?_))
      have e' : k = g := e'
      subst e'
      obtain ⟨c, hc⟩ := own_typed ho' _ e
      obtain ⟨c', hc'⟩ := own_typed h.own _ rfl
      rw [hc'] at hc
      injection hc with hc
      injection hc with _ hc
      exact hne hc.symm
    · rw [List.getElem?_set_self hi] at hu'
      rw [List.getElem?_set_self (by rw [← h.len]; exact hi)] at hx
      injection hu' with hu'
      injection hx with hx
      subst hu'
      subst hx
      exact own_move ho (fun k e => Below.heap_setCell W1 _ _ k (hu1g k e))
  · intro a b ua ub k hab ha hb hk hk'
    have key : ∀ j w k, i ≠ j → vs[j]? = some w → u1.ownBlock = some k → w.ownBlock ≠ some k := by
      intro j w k hij hw h1 h2
      rcases hat with hat | ⟨b, hb, hle⟩
      · exact h.apart i j u w k hij hu hw (hat ▸ h1) h2
      · rw [hb] at h1
        injection h1 with h1
        obtain ⟨xs, _, ho'⟩ := h.elt hw
        have := own_lt ho' k h2
        omega
    by_cases h1 : i = a
    · subst h1
      rw [List.getElem?_set_self hi] at ha
      rw [List.getElem?_set_ne hab] at hb
      injection ha with ha
      subst ha
      exact key b ub k hab hb hk hk'
    · rw [List.getElem?_set_ne h1] at ha
      by_cases h2 : i = b
      · subst h2
        rw [List.getElem?_set_self hi] at hb
        injection hb with hb
        subst hb
        exact key a ua k h1 ha hk' hk
      · rw [List.getElem?_set_ne h2] at hb
        exact h.apart a b ua ub k hab ha hb hk hk'
  · intro w hw k e
    rcases List.mem_or_eq_of_mem_set hw with hw | rfl
    · exact h.oki w hw k e
    · rcases hat with hat | ⟨b, hb, hle⟩
      · exact h.oki u (List.mem_of_getElem? hu) k (hat ▸ e)
      · rw [hb] at e
        injection e with e
        exact hfr k (by omega)
/-- What that has left alone. -/
theorem RR.put_out (h : RR W B e1 e2 ok (.slice (some ⟨g, 0, none⟩) n cap) vs xss) (hu : vs[i]? = some u) (hg : W.grownBy W1 u.ownBlock) :
    (∀ k, k < W.heap.size → ¬ ok k → (W1.setCell ⟨g, i, none⟩ u1).heap[k]? = W.heap[k]?) ∧ (∀ B0, B0 ≤ W.heap.size → (∀ k, ok k → B0 ≤ k) → Below B0 W (W1.setCell ⟨g, i, none⟩ u1)) ∧ ∀ B0, KeepsFrom B0 W (W1.setCell ⟨g, i, none⟩ u1) := by
  have hsz : W.heap.size ≤ (W1.setCell ⟨g, i, none⟩ u1).heap.size := by rw [World.size_setCell]; exact hg.size
  have hfar : ∀ k, k < W.heap.size → k ≠ g → u.ownBlock ≠ some k → (W1.setCell ⟨g, i, none⟩ u1).heap[k]? = W.heap[k]? := fun k hk h1 h2 =>
    (Below.heap_setCell W1 ⟨g, i, none⟩ u1 k h1).trans (hg.block k hk (fun e => h2 e.symm))
  have hok : ∀ k, k < W.heap.size → ¬ ok k → (W1.setCell ⟨g, i, none⟩ u1).heap[k]? = W.heap[k]? := fun k hk hn =>
    hfar k hk (fun e => hn (e ▸ h.okv g rfl)) (fun e => hn (h.oki u (List.mem_of_getElem? hu) k e))
  refine ⟨hok, fun B0 hB hb => ⟨hg.os, hg.tape, hg.output, hsz, fun k hk => hok k (by omega) (fun hk' => by have := hb k hk'; omega)⟩, fun B0 => ⟨hsz, fun k o _ hk ho => ?_⟩⟩
  refine (hfar k (Array.getElem?_eq_some_iff.1 hk).1 (fun e => ?_) (fun e => ?_)).trans hk
  · obtain ⟨c, hc⟩ := own_typed h.own g rfl
    rw [e, hc] at hk
    cases hk
    cases ho
  · obtain ⟨c, hc⟩ := h.typed (List.mem_of_getElem? hu) k e
    rw [hc] at hk
    cases hk
    cases ho
/-- A row of nothing but nil. -/
theorem RR.nils (W : World) (B e1 e2 m : Nat) (hB : B ≤ W.heap.size) (hm : m ≤ 9223372036854775807) :
    RR (W.alloc (.cells (madeCells #[.slice none 0 0] m) e2)) B e1 e2 (fun k => k = W.heap.size) (.slice (some ⟨W.heap.size, 0, none⟩) m m) (List.replicate m (.slice none 0 0)) (List.replicate m []) := by
  refine ⟨?_, by simp, fun i u xs hu hx => ?_, fun i j u u' k _ hu _ e => ?_, fun k e => by simpa [Value.ownBlock] using e.symm, fun u hu k e => ?_⟩
  · have h := World.ownsRow_lit (base := B) (e := e2) (size := 1) W (madeCells #[.slice none 0 0] m) m hB (by simpa [maxLen] using hm) (by simp [size_madeCells])
    have hl : (madeCells #[Value.slice none 0 0] m).toList = List.replicate m (.slice none 0 0) := by
      apply List.ext_getElem
      · simp [madeCells]
      · intro i h1 h2
        simp [madeCells, Nat.mod_one]
    rw [hl] at h
    simpa using h
  · have h1 := List.mem_of_getElem? hu
    have h2 := List.mem_of_getElem? hx
    obtain rfl := List.eq_of_mem_replicate h1
    obtain rfl := List.eq_of_mem_replicate h2
    exact own_nil _ _ _ _
  · obtain rfl := List.eq_of_mem_replicate (List.mem_of_getElem? hu)
    cases e
  · obtain rfl := List.eq_of_mem_replicate hu
    cases e
/-- .. as the kinds have it. -/
theorem RR.R {α : Type} (enc : α → Value) (h1 : ∀ x, (enc x).oneCell' = true) {xss : List (List α)} (hne : e1 ≠ e2) (h : RR W B e1 e2 ok v vs (xss.map (encs enc))) : (Kd.slice e1 (Kd.scalar enc h1)).R e2 W B (fun k => ok k) v xss := by
  have hl : vs.length = xss.length := by rw [h.len, List.length_map]
  refine ⟨h.okv, vs, by rw [← hl]; exact h.own, by show vs.length = xss.length * 1; omega, fun j p hj => ?_⟩
  have hjl : j < vs.length := by rw [hl]; exact (List.getElem?_eq_some_iff.1 hj).1
  have hju : vs[j]? = some vs[j] := List.getElem?_eq_getElem hjl
  have hjx : (xss.map (encs enc))[j]? = some (encs enc p) := by rw [List.getElem?_map, hj]; rfl
  refine ⟨vs[j], ?_, ?_⟩
  · show (vs.drop (j * 1)).take 1 = [vs[j]]
    rw [Nat.mul_one, List.drop_eq_getElem_cons hjl]
    rfl
  · have ho := h.inn j _ _ hju hjx
    rw [encs_length] at ho
    refine Kd.R_of_own ho (fun k e => ⟨h.oki _ (List.getElem_mem hjl) k e, fun e' => by
    obtain ⟨c, hc⟩ := own_typed ho k e
    obtain ⟨c', hc'⟩ := own_typed h.own k e'.symm
    rw [hc'] at hc
    injection hc with hc
    injection hc with _ hc
    exact hne hc.symm⟩)
end
/-- append(v, y) inside a fence, behind gi_at_builtin. -/
theorem append_in {F : Fence} {nF : Nat} {P : Program} {ops : Array Oper} {rest : List Oper} {o : Oper} {a : Act} {Q : Exit → Act → World → Prop} {W : World} (base : Nat) (hgd : o.guard = none) (s x : Operand) (t e : TypeId) (z : Value) (bytes : Nat)
    (ho : o.op = .call { callee := .builtin .append, args := #[s, x], argTypes := #[t, t] })
    (ht : P.underlying t = some (.slice e)) (hinfo : (P.info? e).map (fun i => (i.zero, i.size, i.bytes)) = some (some z, 1, bytes)) (hz : z.cells.size = 1) (hb0 : 0 < bytes)
    (v : Value) (xs : List Value) (y : Value) (hs : a.eval s = v) (hx : a.eval x = .slice (some ⟨W.heap.size, 0, none⟩) 1 1) (h1 : y.oneCell' = true)
    (HO : W.ownsRow base e 1 v xs.length xs) (hbase : base ≤ W.heap.size) (hl : (xs.length + 1) * bytes ≤ 140737488355328)
    (h : ∀ v1 w1, w1.ownsRow base e 1 v1 (xs.length + 1) (xs ++ [y]) → W.grownBy w1 v.ownBlock → (v1.ownBlock = v.ownBlock ∨ ∃ b, v1.ownBlock = some b ∧ W.heap.size ≤ b) → wpListIn F nF P ops Q rest (a.put o.dst v1) w1) :
    wpListIn F nF P ops Q (o :: rest) a (W.alloc (.cells #[y] e)) := by
  obtain ⟨i0, hi, hzz⟩ := Option.map_eq_some_iff.1 hinfo
  simp only [Prod.mk.injEq] at hzz
  obtain ⟨hz0, hz1, hz2⟩ := hzz
  have hlen : xs.length + 1 ≤ 140737488355328 := Nat.le_trans (Nat.le_mul_of_pos_right _ hb0) hl
  refine wpListIn_append_own_at (W.alloc (.cells #[y] e)) hgd s x t ho base e i0 z 1 bytes ht hi hz0 hz1 hz2 hz (by omega) v xs.length xs hs (HO.alloc _) ⟨W.heap.size, 0, none⟩ 1 1 [y] hx rfl
    (World.news_of_block (cs := #[y]) (t := e) (fr := (0, 0)) (heap_alloc_new W _)) (by simpa using h1) (by simp only [maxLen]; omega) hl (by simp; omega) ?_
  intro v1 w1 hown hg _ hat
  refine h v1 w1 hown (World.grownBy.trans (World.grownBy_alloc W _ _) hg) ?_
  rcases hat with hat | hat
  · exact .inl hat
  · exact .inr ⟨_, hat, by simp⟩
end Go.Proofs.Ythgnbeeobhfeaaa.T
end

section
/- Walks: the iterator over the blocks that a block goes to. -/
namespace Go.Proofs.Ythgnbeeobhfeaaa.T
open Go.RowKit Go.Shelf Go.Proofs.YthgnbeeobhfeaaaW.PrintWords Go.Proofs.YthgnbeeobhfeaaaW.PrintLast
attribute [local go_sem] Oper.semAt_some

theorem rd_nat (xs : List Int) (i : Nat) : rd xs (i : Int) = xs.getD i 0 := rfl
/-- A block's row of where it goes. -/
theorem bk_at {w : World} {A : Option Addr} {n : Nat} {xs : List S58} (h : Kd.C k58 w A n xs) (i : Nat) (hi : i < n) :
    ∃ ad A0 c0 A16 c16, A = some ad ∧ w.cell? (ad.add (i * 17)) = some (.slice A0 (rd_T58 xs i).f0.length c0) ∧ w.cell? ⟨(ad.add (i * 17)).block, (ad.add (i * 17)).off + 16, none⟩ = some (.slice A16 (rd_T58 xs i).f1.f5.length c16) ∧
      (Kd.int .i64).C w A16 (rd_T58 xs i).f1.f5.length (rd_T58 xs i).f1.f5 := by
  obtain ⟨ad, A0, c0, A4, c4, A6, c6, A8, c8, A15, c15, A16, c16, e, h0, _, _, _, _, _, _, _, _, _, _, _, _, _, _, _, h16, _, _, _, _, _, _, _, _, _, _, _, g16⟩ := at_T58 h (i : Int) (by omega) (by omega)
  exact ⟨ad, A0, c0, A16, c16, e, h0, h16, g16⟩
theorem rd_T58_get {xs : List S58} {i : Nat} (hi : i < xs.length) : (bksOf xs)[i]? = some ⟨(rd_T58 xs i).f0.length, (rd_T58 xs i).f1.f5⟩ := by
  simp [bksOf, rd_T58, List.getElem?_eq_getElem hi, List.getD_eq_getElem?_getD]

/-- The value of a body. -/
abbrev bodyV (s : ByteArray) (p : Int) (A2 : Option Addr) (n2 c2 : Nat) (A3 : Option Addr) (n3 c3 : Nat) : Value := .agg #[.string s, .int .i64 p, .slice A2 n2 c2, .slice A3 n3 c3]
abbrev bodyC (s : ByteArray) (p : Int) (A2 : Option Addr) (n2 c2 : Nat) (A3 : Option Addr) (n3 c3 : Nat) : Array Value := #[.string s, .int .i64 p, .slice A2 n2 c2, .slice A3 n3 c3]

theorem to_any (s : ByteArray) (p : Int) (A2 : Option Addr) (n2 c2 : Nat) (A3 : Option Addr) (n3 c3 : Nat) (i : Int) (w : World) :
    Calls Try.prog 34 #[bodyV s p A2 n2 c2 A3 n3 c3, .int .i64 i] w fun e w' => e = .returned (.func (.func 53) #[] #[.pointer (some ⟨w.heap.size, 0, none⟩), .pointer (some ⟨w.heap.size + 1, 0, none⟩)]) ∧
      w' = (w.alloc (.cells (bodyC s p A2 n2 c2 A3 n3 c3) 25)).alloc (.cells #[.int .i64 i] 3) := by
  have hmf : ∀ (fn : Fn) (first cap : Array Value) (w : World), (Instr.makeFunc fn first cap).run Try.prog w = .ok (.func fn first cap) w := fun _ _ _ _ => rfl
  go_enter Try.func34, Try.ntmps34
  go_wp2
  go_ret
  exact ⟨rfl, rfl⟩

/-- The blocks that block i goes to, each with a proof that it is one. -/
abbrev Sx (bs : List Bk) (i : Nat) := { x : Int // x ∈ succI bs i }
theorem okTo_snoc_yes (n : Nat) (l : List Int) (k : Nat) (x : Int) (hx : l[k]? = some x) (h0 : 0 ≤ x) (h1 : x < n) : okTo n (l.take (k + 1)) = okTo n (l.take k) ++ [x] := by
  rw [List.take_succ, hx]
  simp [okTo, h0, h1]
theorem okTo_snoc_no (n : Nat) (l : List Int) (k : Nat) (x : Int) (hx : l[k]? = some x) (h : x < 0 ∨ (n : Int) ≤ x) : okTo n (l.take (k + 1)) = okTo n (l.take k) := by
  rw [List.take_succ, hx]
  have : (decide (0 ≤ x) && decide (x < (n : Int))) = false := by
    rcases h with h | h <;> simp <;> omega
  simp [okTo, this]
theorem okTo_prefix (n : Nat) (l : List Int) (k : Nat) : okTo n (l.take k) <+: okTo n l := by
  refine ⟨okTo n (l.drop k), ?_⟩
  rw [okTo, okTo, ← List.filter_append, List.take_append_drop]
  rfl
theorem okTo_le (n : Nat) (l : List Int) : (okTo n l).length ≤ l.length := List.length_filter_le _ _

/-- What a round keeps: all below n0, and the iterator's two boxes. -/
def Kp3 (n0 gb ga : Nat) (W W' : World) : Prop := Below n0 W W' ∧ W'.heap[gb]? = W.heap[gb]? ∧ W'.heap[ga]? = W.heap[ga]?
theorem kp3_t {n0 gb ga : Nat} {A B C : World} (h : Kp3 n0 gb ga A B) (k : Kp3 n0 gb ga B C) : Kp3 n0 gb ga A C := ⟨h.1.trans k.1, k.2.1.trans h.2.1, k.2.2.trans h.2.2⟩
theorem kp3_b {n0 gb ga : Nat} {w : World} (hn : n0 ≤ w.heap.size) (h1 : gb < w.heap.size) (h2 : ga < w.heap.size) (W : World) (l : Nat) (o o' : Obj) (hl : w.heap.size ≤ l) (h : W.heap[l]? = some o) (hc : o.isCells = false) (hw : o.isWalk = false) : Kp3 n0 gb ga W (W.putObj l o') :=
  ⟨belowK_b hn W l o o' hl h hc hw, World.putObj_heap_other (by omega), World.putObj_heap_other (by omega)⟩
theorem Kp3.refl (n0 gb ga : Nat) (W : World) : Kp3 n0 gb ga W W := ⟨Below.refl _ _, rfl, rfl⟩

/-- Where an iterator's blocks lie, and what a world from there on has kept. -/
structure ToAt (W : World) (n0 gb ga : Nat) (s : ByteArray) (p : Int) (A2 : Option Addr) (n2 c2 : Nat) (A3 : Option Addr) (c3 : Nat) (l03 : List S58) (i : Nat) : Prop where
  hb : W.heap[gb]? = some (.cells (bodyC s p A2 n2 c2 A3 l03.length c3) 25 (0, 0))
  ha : W.heap[ga]? = some (.cells #[.int .i64 i] 3 (0, 0))
  low : ∃ Wb : World, Below Wb.heap.size Wb W ∧ Wb.heap.size ≤ n0 ∧ Kd.C k58 Wb A3 l03.length l03
section
variable {W W1 : World} {n0 gb ga : Nat} {s : ByteArray} {p : Int} {A2 : Option Addr} {n2 c2 : Nat} {A3 : Option Addr} {c3 : Nat} {l03 : List S58} {i : Nat}
theorem ToAt.keeps (h : ToAt W n0 gb ga s p A2 n2 c2 A3 c3 l03 i) (hk : Kp3 n0 gb ga W W1) : ToAt W1 n0 gb ga s p A2 n2 c2 A3 c3 l03 i := by
  obtain ⟨Wb, h1, h2, h3⟩ := h.low
  exact ⟨hk.2.1.trans h.hb, hk.2.2.trans h.ha, Wb, h1.trans (hk.1.mono h2), h2, h3⟩
theorem ToAt.C (h : ToAt W n0 gb ga s p A2 n2 c2 A3 c3 l03 i) : Kd.C k58 W A3 l03.length l03 := by
  obtain ⟨Wb, h1, _, h3⟩ := h.low
  exact Kd.C_below h3 h1
end

set_option maxRecDepth 100000 in
set_option maxHeartbeats 2000000 in
/-- For every loop body that keeps what lay below n0: the blocks that there are, in their order. -/
theorem to1_in (n : Nat) (hn : 1 ≤ n) (l n0 gb ga : Nat) (s : ByteArray) (p : Int) (A2 : Option Addr) (n2 c2 : Nat) (A3 : Option Addr) (c3 : Nat) (l03 : List S58) (i : Nat) (hi : i < l03.length) (hsz : l03.length ≤ 1000000) (htz : (rd_T58 l03 i).f1.f5.length ≤ 1000000)
    (J Jx : List (Sx (bksOf l03) i) → World → Prop)
    (hY : ∀ pre x W, J pre W → pre.length < (rd_T58 l03 i).f1.f5.length → YieldAt Fence.wide (n - 1) Try.prog l #[.int .i64 x.1] W fun e W' =>
      (e = .returned (.bool true) ∧ J (pre ++ [x]) W' ∧ Kp3 n0 gb ga W W') ∨ (e = .returned (.bool false) ∧ Jx (pre ++ [x]) W'))
    (W : World) (hT : ToAt W n0 gb ga s p A2 n2 c2 A3 c3 l03 i) (h0 : J [] W) :
    CallsIn Fence.wide n Try.prog 53 #[.func (.yield l) #[] #[], .pointer (some ⟨gb, 0, none⟩), .pointer (some ⟨ga, 0, none⟩)] W fun e W' => (∃ v, e = .returned v) ∧
      ((∃ ys, ys.map (·.1) = succI (bksOf l03) i ∧ J ys W') ∨ (∃ pre, pre.map (·.1) <+: succI (bksOf l03) i ∧ Jx pre W')) := by
  have hbk := rd_T58_get hi
  have hsuc : succI (bksOf l03) i = okTo l03.length (rd_T58 l03 i).f1.f5 := by
    rw [succI, hbk, bksOf_length]; rfl
  obtain ⟨Wb, hb1, hb2, hb3⟩ := hT.low
  obtain ⟨ad, A0, c0, A16, c16, hA, hc0, hc16b, hC⟩ := bk_at hb3 i hi
  have hc16 := pw_cell_below hb1 hc16b
  have HT := Lib.hid hT
  have HS := Lib.hid hsuc
  have HC := Lib.hid hC
  have HW := Lib.hid hb1
  have HW2 := Lib.hid hb2
  have hcb := blk_cell hT.hb
  have hca := blk_cell hT.ha
  have hcb3 : W.cell? ⟨gb, 3, none⟩ = some (.slice A3 l03.length c3) := (hcb 3).trans rfl
  have hca0 : W.cell? ⟨ga, 0, none⟩ = some (.int .i64 i) := (hca 0).trans rfl
  clear hcb hca hT hsuc hbk hC hc0 hc16b hb1 hb2 hb3
  subst hA
  have hI0 : (0 : Int) ≤ (i : Int) := by omega
  have hI1 : (i : Int) < (l03.length : Int) := by omega
  generalize htos : (rd_T58 l03 i).f1.f5 = tos at *
  have HTos := Lib.hid htos
  clear htos
  refine callsIn_of_wp Try.func53 rfl trivial ?_ rfl
  simp only [Try.ntmps53, List.size_toArray, List.length_cons, List.length_nil, Nat.reduceAdd, Nat.reduceSub, Array.replicate_succ, Array.replicate_zero, List.push_toArray, List.append_toArray, List.nil_append, List.cons_append]
  gi_wp2
  gi_loopw [14] (fun v wr => ∃ (kk : Nat) (pre : List (Sx (bksOf l03) i)), v = .int .i64 kk ∧ kk ≤ tos.length ∧ Hid (pre.map (·.1) = okTo l03.length (tos.take kk)) ∧ Hid (ToAt wr n0 gb ga s p A2 n2 c2 (some ad) c3 l03 i) ∧ Hid (Below n0 W wr) ∧ J pre wr) (fun v _ => tos.length - (intOf v).toNat)
  case atStart => exact ⟨0, [], rfl, Nat.zero_le _, Lib.hid rfl, HT, Lib.hid (Below.refl _ _), h0⟩
  case round =>
    obtain ⟨kk, pre, rfl, hk, hp, ht, hB, hJ⟩ := hrel
    clear hc16 hcb3 hca0
    have hbw : Below Wb.heap.size Wb wr := HW.out.trans (hB.out.mono HW2.out)
    by_cases hlt : kk < tos.length
    · have hx : tos[kk]? = some (tos.getD kk 0) := by simp [List.getElem?_eq_getElem hlt, List.getD_eq_getElem?_getD]
      obtain ⟨ad', had, hcell⟩ := Kd.at_int (Kd.C_below HC.out hbw) (kk : Int) (by omega) (by omega)
      subst had
      rw [rd_nat, Int.toNat_natCast] at hcell
      have hcb3 : wr.cell? ⟨gb, 3, none⟩ = some (.slice (some ad) l03.length c3) := (blk_cell ht.out.hb 3).trans rfl
      have hpl : pre.length ≤ kk := by
        have h1 := congrArg List.length hp.out
        have h2 := okTo_le l03.length (tos.take kk)
        rw [List.length_map] at h1
        rw [List.length_take] at h2
        omega
      have hlk : (kk : Int) < (tos.length : Int) := by omega
      have HX := Lib.hid hx
      have HBW := Lib.hid hbw
      clear hx hbw
      generalize tos.getD kk 0 = x at *
      by_cases hx0 : 0 ≤ x
      · by_cases hx1 : x < (l03.length : Int)
        · have hmem : x ∈ succI (bksOf l03) i := by
            rw [HS.out]
            simp only [okTo, List.mem_filter, Bool.and_eq_true, decide_eq_true_eq]
            exact ⟨List.mem_of_getElem? HX.out, hx0, hx1⟩
          have hp' : Hid ((pre ++ [(⟨x, hmem⟩ : Sx (bksOf l03) i)]).map (·.1) = okTo l03.length (tos.take (kk + 1))) := Lib.hid (by
            rw [okTo_snoc_yes _ _ _ _ HX.out hx0 hx1, List.map_append, hp.out]
            rfl)
          obtain ⟨fn, tmps, assign, body, hy, hR⟩ := hY pre ⟨x, hmem⟩ wr hJ (by omega)
          dsimp only at hy
          gi_wp2
          refine hR.mono ?_
          rintro e W3 (⟨rfl, hJ3, hk3⟩ | ⟨rfl, hJx3⟩)
          · have ht3 := Lib.hid (ht.out.keeps hk3)
            have hB3 := Lib.hid (hB.out.trans hk3.1)
            clear hk3
            gi_wp2
            go_roundw
            case rel => exact ⟨kk + 1, pre ++ [⟨x, hmem⟩], by go_num, by omega, hp', ht3, hB3, hJ3⟩
            case measure => simp [intOf]; omega
          · gi_wp2
            refine bodyPost_ret (results_none rfl _ _ _) rfl ?_
            exact ⟨⟨_, rfl⟩, .inr ⟨pre ++ [⟨x, hmem⟩], by rw [hp'.out, HS.out]; exact okTo_prefix _ _ _, hJx3⟩⟩
        · have hp' : Hid (pre.map (·.1) = okTo l03.length (tos.take (kk + 1))) := Lib.hid (by rw [okTo_snoc_no _ _ _ _ HX.out (.inr (by omega))]; exact hp.out)
          gi_wp2
          refine ⟨(fun _ h => by cases h), ?_⟩
          gi_wp2
          go_roundw
          case rel => exact ⟨kk + 1, pre, by go_num, by omega, hp', ht, hB, hJ⟩
          case measure => simp [intOf]; omega
      · have hp' : Hid (pre.map (·.1) = okTo l03.length (tos.take (kk + 1))) := Lib.hid (by rw [okTo_snoc_no _ _ _ _ HX.out (.inl (by omega))]; exact hp.out)
        gi_wp2
        refine ⟨(fun _ h => by cases h), ?_⟩
        gi_wp2
        go_roundw
        case rel => exact ⟨kk + 1, pre, by go_num, by omega, hp', ht, hB, hJ⟩
        case measure => simp [intOf]; omega
    · obtain rfl : kk = tos.length := by omega
      have hp' : Hid (pre.map (·.1) = succI (bksOf l03) i) := Lib.hid (hp.out.trans (by rw [HS.out, List.take_length]))
      clear hlt
      gi_wp2
      go_end0
      exact ⟨⟨_, rfl⟩, .inl ⟨pre, hp'.out, hJ⟩⟩

/-- .. as the laws on loops over functions ask for it. -/
theorem to_stops (n : Nat) (hn : 1 ≤ n) (n0 gb ga : Nat) (s : ByteArray) (p : Int) (A2 : Option Addr) (n2 c2 : Nat) (A3 : Option Addr) (c3 : Nat) (l03 : List S58) (i : Nat) (hi : i < l03.length) (hsz : l03.length ≤ 1000000) (htz : (rd_T58 l03 i).f1.f5.length ≤ 1000000) (w : World) (hn0 : n0 ≤ w.heap.size) (hgb : gb < w.heap.size) (hga : ga < w.heap.size)
    (hT : ToAt w n0 gb ga s p A2 n2 c2 A3 c3 l03 i) :
    SeqStopsK Fence.wide n Try.prog 53 #[.pointer (some ⟨gb, 0, none⟩), .pointer (some ⟨ga, 0, none⟩)] (fun x : Sx (bksOf l03) i => #[Value.int .i64 x.1]) (Kp3 n0 gb ga) (fun ys => ys.map (·.1) = succI (bksOf l03) i) (fun pre => pre.map (·.1) <+: succI (bksOf l03) i) (rd_T58 l03 i).f1.f5.length w := fun l J Jx W hW _ _ hY h0 =>
  to1_in n hn l n0 gb ga s p A2 n2 c2 A3 c3 l03 i hi hsz htz J Jx hY W (hT.keeps ⟨hW.mono hn0, hW.block _ hgb, hW.block _ hga⟩) h0
end Go.Proofs.Ythgnbeeobhfeaaa.T
end

section
/- Maps by what stands at each key. -/
namespace Go.Proofs.Ythgnbeeobhfeaaa
open Go.RowKit Go.MapKept Go.ChangeMaps Go.ChangeShapes
open Go.Maps (Keyed)
open Classical in
/-- What a map has, at a key more. -/
noncomputable def setAt (f : Value → Option Value) (key val : Value) : Value → Option Value := fun x => if x = key then some val else f x
theorem setAt_same (f : Value → Option Value) (key val : Value) : setAt f key val key = some val := by simp [setAt]
theorem setAt_other (f : Value → Option Value) {key x : Value} (val : Value) (h : x ≠ key) : setAt f key val x = f x := by simp [setAt, h]

/-- Block b is a map of n entries; f tells what stands at each key. -/
def MapIs (P : Program) (k : TypeId) (w : World) (b n : Nat) (f : Value → Option Value) : Prop :=
  ∃ es clock, w.heap[b]? = some (.map es clock) ∧ Stamped es clock ∧ (∀ x ∈ es.toList, ∃ l, keyOf P k x.key = some l) ∧ es.size = n ∧ ∀ key v, f key = some v ↔ ∃ x ∈ es.toList, x.key = key ∧ x.val = v
section
variable {P : Program} {k t e : TypeId} {w w1 : World} {b n : Nat} {f : Value → Option Value} {key val z : Value} {kl : Lit}
theorem MapIs.lt (h : MapIs P k w b n f) : b < w.heap.size := by
  obtain ⟨es, clock, hb, _⟩ := h
  exact (Array.getElem?_eq_some_iff.1 hb).1
theorem MapIs.move (h : MapIs P k w b n f) (hm : w1.heap[b]? = w.heap[b]?) : MapIs P k w1 b n f := by
  obtain ⟨es, clock, hb, r⟩ := h
  exact ⟨es, clock, hm.trans hb, r⟩
theorem MapIs.below (h : MapIs P k w b n f) (hb : Below w.heap.size w w1) : MapIs P k w1 b n f := h.move (hb.block b h.lt)
theorem MapIs.grown {row : Option Nat} (h : MapIs P k w b n f) (hg : w.grownBy w1 row) (hne : some b ≠ row) : MapIs P k w1 b n f := h.move (hg.block b h.lt hne)
theorem MapIs.set (h : MapIs P k w b n f) {p : Addr} (hp : b ≠ p.block) (u : Value) : MapIs P k (w.setCell p u) b n f := h.move (Below.heap_setCell w p u b hp)
theorem MapIs.made (P : Program) (k : TypeId) (w : World) : MapIs P k (w.alloc (.map #[] 0)) w.heap.size 0 (fun _ => none) :=
  ⟨#[], 0, (MapKept.heap_alloc w _).1, stamped_empty 0, by simp, rfl, by simp⟩
/-- A block of cells is no map. -/
theorem MapIs.ne_cells (h : MapIs P k w b n f) {g : Nat} {cs : Array Value} {ty : TypeId} {fr : Nat × Nat} (hg : w.heap[g]? = some (.cells cs ty fr)) : b ≠ g := by
  rintro rfl
  obtain ⟨es, clock, hb, _⟩ := h
  rw [hg] at hb
  cases hb

theorem find_none {es : Array MapEntry} (hf : ∀ key v, f key = some v ↔ ∃ x ∈ es.toList, x.key = key ∧ x.val = v) (h : ∀ x ∈ es.toList, x.key ≠ key) : f key = none := by
  cases hv : f key with
  | none => rfl
  | some v =>
    obtain ⟨x, hx, hk, _⟩ := (hf key v).1 hv
    exact absurd hk (h x hx)
theorem MapIs.lookup (h : MapIs P k w b n f) (K : Keyed P k) (ht : P.underlying t = some (.map k e)) (hz : (zeroValue e).run P w = .ok z w) (hkey : keyOf P k key = some kl) :
    (Instr.lookup t (.map (some b)) key false).run P w = .ok ((f key).getD z) w := by
  obtain ⟨es, clock, hb, hs, hk, _, hf⟩ := h
  rcases K.find w hkey es.toList hk with ⟨h1, h2⟩ | ⟨j, e0, h1, h2, h3⟩
  · rw [find_none hf h2]
    simp [Instr.lookup, MapKept.run_getObj_map hb, K.check w _ hkey, h1, hz, Result.andThen, run_underlying ht]
  · have : f key = some e0.val := (hf key e0.val).2 ⟨e0, List.mem_of_getElem? h2, h3, rfl⟩
    rw [this]
    simp [Instr.lookup, MapKept.run_getObj_map hb, K.check w _ hkey, h1, Result.andThen, run_underlying ht]
theorem grown_block (w : World) {es : Array MapEntry} {clock : Nat} (hb : w.heap[b]? = some (.map es clock)) (o : Obj) : w.grownBy (setBlock w b o) (some b) :=
  ⟨rfl, rfl, rfl, by simp [setBlock], fun i _ hi => heap_setBlock_other hb _ (fun e => hi (by rw [e]))⟩

theorem nodup_at {es : List MapEntry} (hn : (es.map (·.key)).Nodup) {j : Nat} {e0 y : MapEntry} (h : es[j]? = some e0) (hy : y ∈ es) (hk : y.key = e0.key) : y = e0 := by
  obtain ⟨i, hi, rfl⟩ := List.getElem_of_mem hy
  obtain ⟨hj, he⟩ := List.getElem?_eq_some_iff.1 h
  have h1 := List.pairwise_iff_getElem.1 hn
  rcases Nat.lt_trichotomy i j with hlt | heq | hgt
  · have := h1 i j (by simpa using hi) (by simpa using hj) hlt
    simp only [List.getElem_map] at this
    rw [he] at this
    exact absurd hk this
  · subst heq; exact he
  · have := h1 j i (by simpa using hj) (by simpa using hi) hgt
    simp only [List.getElem_map] at this
    rw [he] at this
    exact absurd hk.symm this
theorem modify_is {es : Array MapEntry} {clock j : Nat} {e0 : MapEntry} (hs : Stamped es clock) (hk : ∀ x ∈ es.toList, ∃ l, keyOf P k x.key = some l) (hn : es.size = n) (hf : ∀ key v, f key = some v ↔ ∃ x ∈ es.toList, x.key = key ∧ x.val = v)
    (h2 : es.toList[j]? = some e0) (h3 : e0.key = key) (val : Value) (hw : w1.heap[b]? = some (.map (es.modify j fun e' => { e' with val := val }) clock)) : MapIs P k w1 b n (setAt f key val) := by
  have hl : (es.modify j fun e' => { e' with val := val }).toList = es.toList.set j { e0 with val := val } := by
    rw [Array.toList_modify, modify_eq_set _ _ _ _ h2]
  have hjl : j < es.toList.length := (List.getElem?_eq_some_iff.1 h2).1
  have hmem : ∀ y, y ∈ es.toList.set j { e0 with val := val } ↔ y = { e0 with val := val } ∨ (y ∈ es.toList ∧ y.key ≠ key) := by
    intro y
    constructor
    · intro hy
      obtain ⟨i, hi, rfl⟩ := List.getElem_of_mem hy
      rw [List.length_set] at hi
      by_cases e : j = i
      · subst e; left; simp
      · right
        rw [List.getElem_set_ne e]
        refine ⟨List.getElem_mem _, fun hk' => e ?_⟩
        have h1 := List.pairwise_iff_getElem.1 hs.2.2
        obtain ⟨_, he⟩ := List.getElem?_eq_some_iff.1 h2
        rcases Nat.lt_trichotomy i j with hlt | heq | hgt
        · have := h1 i j (by simpa using hi) (by simpa using hjl) hlt
          simp only [List.getElem_map] at this
          rw [he, h3] at this
          exact absurd hk' this
        · exact heq.symm
        · have := h1 j i (by simpa using hjl) (by simpa using hi) hgt
          simp only [List.getElem_map] at this
          rw [he, h3] at this
          exact absurd hk'.symm this
    · rintro (rfl | ⟨hy, hne⟩)
      · exact List.mem_of_getElem? (i := j) (by rw [List.getElem?_set_self hjl])
      · obtain ⟨i, hi, rfl⟩ := List.getElem_of_mem hy
        have e : j ≠ i := by
          rintro rfl
          obtain ⟨_, he⟩ := List.getElem?_eq_some_iff.1 h2
          exact hne (by rw [he]; exact h3)
        exact List.mem_of_getElem? (i := i) (by rw [List.getElem?_set_ne e]; exact List.getElem?_eq_getElem hi)
  have hmap : ∀ {α : Type} (g : MapEntry → α), g { e0 with val := val } = g e0 → (es.toList.set j { e0 with val := val }).map g = es.toList.map g := by
    intro α g hg
    apply List.ext_getElem?
    intro i
    rw [List.getElem?_map, List.getElem?_map]
    by_cases e : j = i
    · subst e
      rw [List.getElem?_set_self hjl, h2]
      simp [hg]
    · rw [List.getElem?_set_ne e]
  refine ⟨_, _, hw, ⟨?_, ?_, ?_⟩, ?_, by simp [hn], fun x v => ?_⟩
  · rw [hl]
    intro y hy
    rcases (hmem y).1 hy with rfl | ⟨hy, _⟩
    · exact hs.1 e0 (List.mem_of_getElem? h2)
    · exact hs.1 y hy
  · rw [hl, hmap _ rfl]; exact hs.2.1
  · rw [hl, hmap _ rfl]; exact hs.2.2
  · rw [hl]
    intro y hy
    rcases (hmem y).1 hy with rfl | ⟨hy, _⟩
    · exact hk e0 (List.mem_of_getElem? h2)
    · exact hk y hy
  · rw [hl]
    by_cases hx : x = key
    · subst hx
      rw [setAt_same]
      constructor
      · intro h
        exact ⟨_, (hmem _).2 (.inl rfl), h3, Option.some.inj h⟩
      · rintro ⟨y, hy, hyk, hyv⟩
        rcases (hmem y).1 hy with rfl | ⟨_, hne⟩
        · rw [← hyv]
        · exact absurd hyk hne
    · rw [setAt_other f val hx, hf]
      constructor
      · rintro ⟨y, hy, hyk, hyv⟩
        exact ⟨y, (hmem y).2 (.inr ⟨hy, by rw [hyk]; exact hx⟩), hyk, hyv⟩
      · rintro ⟨y, hy, hyk, hyv⟩
        rcases (hmem y).1 hy with rfl | ⟨hy, _⟩
        · exact absurd (hyk.symm.trans h3) hx
        · exact ⟨y, hy, hyk, hyv⟩
open Classical in
/-- How many entries a map has behind a store. -/
noncomputable def moreAt (f : Value → Option Value) (key : Value) (n : Nat) : Nat := if (f key).isSome then n else n + 1
/-- Behind 'mapEntry': the entry of that stamp is that of key. -/
def EntryIs (P : Program) (k : TypeId) (w : World) (b n : Nat) (f : Value → Option Value) (key : Value) (st : Nat) : Prop :=
  ∃ (es : Array MapEntry) (clock j : Nat) (e0 : MapEntry), w.heap[b]? = some (.map es clock) ∧ Stamped es clock ∧ (∀ x ∈ es.toList, ∃ l, keyOf P k x.key = some l) ∧ es.size = n ∧ (∀ x v, x ≠ key → (f x = some v ↔ ∃ y ∈ es.toList, y.key = x ∧ y.val = v)) ∧ es.toList[j]? = some e0 ∧ e0.key = key ∧ e0.born = st
theorem EntryIs.move {st : Nat} (h : EntryIs P k w b n f key st) (hm : w1.heap[b]? = w.heap[b]?) : EntryIs P k w1 b n f key st := by
  obtain ⟨es, clock, j, e0, hb, r⟩ := h
  exact ⟨es, clock, j, e0, hm.trans hb, r⟩
theorem EntryIs.lt {st : Nat} (h : EntryIs P k w b n f key st) : b < w.heap.size := by
  obtain ⟨es, clock, j, e0, hb, _⟩ := h
  exact (Array.getElem?_eq_some_iff.1 hb).1
theorem EntryIs.grown {st : Nat} {row : Option Nat} (h : EntryIs P k w b n f key st) (hg : w.grownBy w1 row) (hne : some b ≠ row) : EntryIs P k w1 b n f key st := h.move (hg.block b h.lt hne)
theorem EntryIs.below {st : Nat} (h : EntryIs P k w b n f key st) (hb : Below w.heap.size w w1) : EntryIs P k w1 b n f key st := h.move (hb.block b h.lt)
theorem EntryIs.set {st : Nat} (h : EntryIs P k w b n f key st) {p : Addr} (hp : b ≠ p.block) (u : Value) : EntryIs P k (w.setCell p u) b n f key st := h.move (Below.heap_setCell w p u b hp)
theorem findIdx_stamp {es : Array MapEntry} {j : Nat} {e0 : MapEntry} (hn : (es.toList.map (·.born)).Nodup) (h : es.toList[j]? = some e0) : es.findIdx? (fun e => ((e.born : Nat) : Int) == ((e0.born : Nat) : Int)) = some j := by
  rw [Array.findIdx?_eq_some_iff_getElem]
  obtain ⟨hj, he⟩ := List.getElem?_eq_some_iff.1 h
  have hj' : j < es.size := by simpa using hj
  have he' : es[j] = e0 := by simpa using he
  refine ⟨hj', by simp [he'], fun i hi => ?_⟩
  have h1 := List.pairwise_iff_getElem.1 hn i j (by simp; omega) (by simpa using hj') hi
  simp only [List.getElem_map, Array.getElem_toList, he'] at h1
  simp only [beq_iff_eq, Int.natCast_inj]
  exact h1
theorem EntryIs.store {st : Nat} (h : EntryIs P k w b n f key st) (val : Value) :
    ∃ w', (Instr.entryStore t (.map (some b)) (goInt st) val).run P w = .ok () w' ∧ MapIs P k w' b n (setAt f key val) ∧ w.grownBy w' (some b) := by
  obtain ⟨es, clock, j, e0, hb, hs, hk, hn, hf, h2, h3, rfl⟩ := h
  have hidx := findIdx_stamp hs.2.1 h2
  refine ⟨setBlock w b (.map (es.modify j fun e' => { e' with val := val }) clock), by simp [Instr.entryStore, MapKept.run_getObj_map hb, asInt, asIntOf, goInt, hidx, MapKept.run_setObj_map _ hb, Result.andThen, setBlock], ?_, grown_block w hb _⟩
  have hfull := modify_is (P := P) (k := k) (w1 := setBlock w b (.map (es.modify j fun e' => { e' with val := val }) clock)) (f := fun x => (es.toList.find? (fun y => by classical exact decide (y.key = x))).map (·.val)) hs hk hn (fun x v => by
    classical
    constructor
    · intro hx
      obtain ⟨y, hy, rfl⟩ := Option.map_eq_some_iff.1 hx
      exact ⟨y, List.mem_of_find?_eq_some hy, by simpa using List.find?_some hy, rfl⟩
    · rintro ⟨y, hy, rfl, rfl⟩
      cases hfd : es.toList.find? (fun z => decide (z.key = y.key)) with
      | none => exact absurd (List.find?_eq_none.1 hfd y hy) (by simp)
      | some z =>
        have hz := List.mem_of_find?_eq_some hfd
        have hzk : z.key = y.key := by simpa using List.find?_some hfd
        obtain ⟨i, hi, rfl⟩ := List.getElem_of_mem hy
        rw [nodup_at hs.2.2 (List.getElem?_eq_getElem hi) hz hzk]
        rfl) h2 h3 val (heap_setBlock_same hb _)
  obtain ⟨es', clock', a1, a2, a3, a4, a5⟩ := hfull
  refine ⟨es', clock', a1, a2, a3, a4, fun x v => ?_⟩
  rw [← a5]
  by_cases hx : x = key
  · subst hx; rw [setAt_same, setAt_same]
  · rw [setAt_other _ _ hx, setAt_other _ _ hx, hf x v hx]
    classical
    constructor
    · rintro ⟨y, hy, rfl, rfl⟩
      cases hfd : es.toList.find? (fun z => decide (z.key = y.key)) with
      | none => exact absurd (List.find?_eq_none.1 hfd y hy) (by simp)
      | some z =>
        have hz := List.mem_of_find?_eq_some hfd
        have hzk : z.key = y.key := by simpa using List.find?_some hfd
        obtain ⟨i, hi, rfl⟩ := List.getElem_of_mem hy
        rw [nodup_at hs.2.2 (List.getElem?_eq_getElem hi) hz hzk]
        rfl
    · intro hx'
      obtain ⟨y, hy, rfl⟩ := Option.map_eq_some_iff.1 hx'
      exact ⟨y, List.mem_of_find?_eq_some hy, by simpa using List.find?_some hy, rfl⟩
theorem MapIs.entry (h : MapIs P k w b n f) (K : Keyed P k) (ht : P.underlying t = some (.map k e)) (hz : (zeroValue e).run P w = .ok z w) (hkey : keyOf P k key = some kl) :
    ∃ (st : Nat) (w' : World), (Instr.mapEntry t (.map (some b)) key).run P w = .ok (.tuple #[(f key).getD z, goInt st]) w' ∧ EntryIs P k w' b (moreAt f key n) f key st ∧ w.grownBy w' (some b) := by
  obtain ⟨es, clock, hb, hs, hk, hn, hf⟩ := h
  rcases K.find w hkey es.toList hk with ⟨h1, h2⟩ | ⟨j, e0, h1, h2, h3⟩
  · have hnone := find_none hf h2
    have hm : moreAt f key n = n + 1 := by simp [moreAt, hnone]
    refine ⟨clock, setBlock w b (.map (es.push ⟨key, z, clock⟩) (clock + 1)), by simp [Instr.mapEntry, MapKept.run_getObj_map hb, K.check w false hkey, h1, hz, hnone, MapKept.run_setObj_map _ hb, Result.andThen, setBlock, run_underlying ht], ?_, grown_block w hb _⟩
    rw [hm]
    refine ⟨_, _, es.size, ⟨key, z, clock⟩, heap_setBlock_same hb _, stamped_push hs h2, fun x hx => ?_, by simp [hn], fun x v hx => ?_, by simp, rfl, rfl⟩
    · simp only [Array.toList_push, List.mem_append, List.mem_singleton] at hx
      rcases hx with hx | rfl
      · exact hk x hx
      · exact ⟨kl, hkey⟩
    · rw [hf]
      simp only [Array.toList_push, List.mem_append, List.mem_singleton]
      constructor
      · rintro ⟨y, hy, r⟩
        exact ⟨y, .inl hy, r⟩
      · rintro ⟨y, hy | rfl, hyk, hyv⟩
        · exact ⟨y, hy, hyk, hyv⟩
        · exact absurd hyk.symm hx
  · have hv : f key = some e0.val := (hf key e0.val).2 ⟨e0, List.mem_of_getElem? h2, h3, rfl⟩
    have hj : es[j]? = some e0 := by simpa using h2
    have hm : moreAt f key n = n := by simp [moreAt, hv]
    have hsame : es.modify j (fun e => { e with key := key }) = es := by
      apply Array.ext'
      rw [Array.toList_modify, modify_eq_set _ _ _ _ h2]
      have he : ({ e0 with key := key } : MapEntry) = e0 := by rw [← h3]
      rw [he]
      obtain ⟨hjl, hje⟩ := List.getElem?_eq_some_iff.1 h2
      rw [← hje, List.set_getElem_self]
    refine ⟨e0.born, setBlock w b (.map es clock), by simp [Instr.mapEntry, MapKept.run_getObj_map hb, K.check w false hkey, h1, hj, h3, hv, K.stays w hkey, hsame, MapKept.run_setObj_map _ hb, Result.andThen, setBlock, run_underlying ht], ?_, grown_block w hb _⟩
    rw [hm]
    exact ⟨es, clock, j, e0, heap_setBlock_same hb _, hs, hk, hn, fun x v _ => hf x v, h2, h3, rfl⟩
end
end Go.Proofs.Ythgnbeeobhfeaaa
end
