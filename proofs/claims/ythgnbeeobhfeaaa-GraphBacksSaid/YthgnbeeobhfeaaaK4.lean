/- Texts of this claim in one file: H5, H6, H7. -/
import Derived.Test.YthgnbeeobhfeaaaK3
import Derived.Test.YthgnbeeobhfeaaaK2
import Derived.DeepKeys4
import Derived.Carry
import Derived.Test.YthgnbeeobhfeaaaT1
set_option linter.all false
section
/- Walks: changes by their places (a map). -/
namespace Go.Proofs.Ythgnbeeobhfeaaa.T
open Go.RowKit Go.Shelf Go.Proofs.YthgnbeeobhfeaaaW.PrintWords Go.Proofs.YthgnbeeobhfeaaaW.PrintLast
open Go.ChangeShapes Go.WideShapes Go.WideMaps Go.Proofs.YthgnbeeobhfeaaaW.PrintMore
attribute [local go_sem] max2_int min2_int max_two min_two max_three min_three max_four min_four
open Go.Maps (Keyed)

theorem laidOut : laidOutB Try.prog = true := by kernel_rfl
theorem row100 : (100 : TypeId) < Try.prog.types.size := of_decide_eq_true (by kernel_rfl)
theorem wide100 : (match Try.prog.underlying 100 with | some (.array _ _) | some (.struct _) => true | _ => false) = true := by kernel_rfl
set_option maxRecDepth 100000 in
theorem law100 : KeyLaw Try.prog 100 := deep_law_laid laidOut (m := 2) (by omega) row100 (by kernel_rfl) wide100
theorem keyed100 : Keyed Try.prog 100 := Keyed.of_law law100
def placeV (b k : Int) : Value := .agg #[.int .i64 b, .int .i64 k]
theorem placeV_inj {b k b' k' : Int} (h : placeV b k = placeV b' k') : b = b' ∧ k = k' := by
  simp [placeV] at h
  exact h
theorem some_types : ∃ m, Try.prog.types.size = m + 2 := by
  have h : 2 ≤ Try.prog.types.size := of_decide_eq_true (by kernel_rfl)
  exact ⟨Try.prog.types.size - 2, by omega⟩
/-- A number of 64 bits. -/
theorem inW_small {b : Int} (h0 : 0 ≤ b) (h1 : b ≤ 1000000) : inW b = true := by
  have e1 : IntKind.i64.min = -9223372036854775808 := by decide
  have e2 : IntKind.i64.max = 9223372036854775807 := by decide
  simp only [inW, Lit.wf, e1, e2, Bool.and_eq_true, decide_eq_true_eq]
  omega
theorem place_key {b k : Int} (hb : inW b = true) (hk : inW k = true) : ∃ kl, keyOf Try.prog 100 (placeV b k) = some kl := by
  unfold inW at hb hk
  have h1 : Try.prog.keyType 100 = true := by kernel_rfl
  have hc : Try.prog.cellsOf 100 = 2 := by kernel_rfl
  have hc3 : Try.prog.cellsOf 3 = 1 := by kernel_rfl
  have h2 : (placeV b k).formed Try.prog 100 = true := by simp [placeV, Value.formed, Try.underlying100, hc]
  obtain ⟨m, hm⟩ := some_types
  refine ⟨.string (keyBytes [.int .i64 b, .int .i64 k]), ?_⟩
  simp only [keyOf, Try.underlying100, h1, h2, Bool.and_self, if_true, hm]
  simp [Program.keyLits, Try.underlying100, Try.underlying3, hc, hc3, placeV, Value.cells, hb, hk]
theorem zero27 (w : World) : (zeroValue 27).run Try.prog w = .ok (.slice none 0 0) w := by kernel_rfl

/-- The changes of a place. -/
def hitsS (cs : List S66) (b k : Int) : List S66 := cs.filter (fun c => decide (c.f0 = b) && decide (c.f1 = k))
theorem hitsS_chs (cs : List S66) (b k : Int) : chsOf (hitsS cs b k) = hits (chsOf cs) b k := by
  simp only [chsOf, hitsS, hits, List.filter_map]
  rfl
theorem hitsS_same (cs : List S66) (c : S66) : hitsS (cs ++ [c]) c.f0 c.f1 = hitsS cs c.f0 c.f1 ++ [c] := by simp [hitsS]
theorem hitsS_other (cs : List S66) (c : S66) {b k : Int} (h : ¬ (c.f0 = b ∧ c.f1 = k)) : hitsS (cs ++ [c]) b k = hitsS cs b k := by
  have : (decide (c.f0 = b) && decide (c.f1 = k)) = false := by
    rw [Bool.eq_false_iff]
    intro h'
    simp only [Bool.and_eq_true, decide_eq_true_eq] at h'
    exact h h'
  simp [hitsS, this]
theorem hitsS_le (cs : List S66) (b k : Int) : (hitsS cs b k).length ≤ cs.length := List.length_filter_le _ _

/-- What a table's map tells (f) of changes: each place has its own row. -/
structure Tab (w0 W : World) (B : Nat) (f : Value → Option Value) (cs : List S66) : Prop where
  no : ∀ b k, hitsS cs b k = [] → f (placeV b k) = none
  yes : ∀ b k, hitsS cs b k ≠ [] → ∃ v, f (placeV b k) = some v ∧ OwnRow (k66.K w0) 66 4 W B v (hitsS cs b k)
  apart : ∀ (b k b' k' : Int) (v v' : Value) (q : Nat), ¬ (b = b' ∧ k = k') → f (placeV b k) = some v → f (placeV b' k') = some v' → v.ownBlock = some q → v'.ownBlock ≠ some q
section
variable {w0 W W1 : World} {B : Nat} {f : Value → Option Value} {cs : List S66}
theorem Tab.get (h : Tab w0 W B f cs) (b k : Int) : OwnRow (k66.K w0) 66 4 W B ((f (placeV b k)).getD (.slice none 0 0)) (hitsS cs b k) := by
  by_cases h0 : hitsS cs b k = []
  · rw [h.no b k h0, h0]
    exact OwnRow.none_ _ _ _ _ _
  · obtain ⟨v, h1, h2⟩ := h.yes b k h0
    rw [h1]
    exact h2
theorem Tab.row (h : Tab w0 W B f cs) {b k : Int} {v : Value} (hf : f (placeV b k) = some v) : OwnRow (k66.K w0) 66 4 W B v (hitsS cs b k) := by
  have := h.get b k
  rwa [hf] at this
theorem Tab.move (h : Tab w0 W B f cs) (hm : ∀ (k : Nat) (c : Array Value), W.heap[k]? = some (.cells c 66 (0, 0)) → W1.heap[k]? = W.heap[k]?) : Tab w0 W1 B f cs := by
  refine ⟨h.no, fun b k h0 => ?_, h.apart⟩
  obtain ⟨v, h1, inner, ho, hr⟩ := h.yes b k h0
  exact ⟨v, h1, inner, own_move ho (fun q e => by obtain ⟨c, hc⟩ := own_typed ho q e; exact hm q c hc), hr⟩
theorem Tab.nil (w0 W : World) (B : Nat) : Tab w0 W B (fun _ => none) [] := ⟨fun _ _ _ => rfl, fun _ _ h => absurd rfl h, fun _ _ _ _ _ _ _ _ h => by cases h⟩
/-- A change more: its place's row has been written (or made anew). -/
theorem Tab.more (h : Tab w0 W B f cs) (c : S66) {v1 : Value} (hg : W.grownBy W1 ((f (placeV c.f0 c.f1)).getD (.slice none 0 0)).ownBlock) (ho : OwnRow (k66.K w0) 66 4 W1 B v1 (hitsS cs c.f0 c.f1 ++ [c]))
    (hat : v1.ownBlock = ((f (placeV c.f0 c.f1)).getD (.slice none 0 0)).ownBlock ∨ ∃ b, v1.ownBlock = some b ∧ W.heap.size ≤ b) : Tab w0 W1 B (setAt f (placeV c.f0 c.f1) v1) (cs ++ [c]) := by
  have old : ∀ b k v, ¬ (c.f0 = b ∧ c.f1 = k) → f (placeV b k) = some v → (OwnRow (k66.K w0) 66 4 W1 B v (hitsS cs b k)) ∧ ∀ q, v.ownBlock = some q → v1.ownBlock ≠ some q := by
    intro b k v hne hf
    have hr := h.row hf
    obtain ⟨inner, hi, hrep⟩ := hr
    have hdis : ∀ q, v.ownBlock = some q → ((f (placeV c.f0 c.f1)).getD (.slice none 0 0)).ownBlock ≠ some q := by
      intro q hq hq'
      cases hc : f (placeV c.f0 c.f1) with
      | none => rw [hc] at hq'; cases hq'
      | some v' =>
        rw [hc] at hq'
        exact h.apart c.f0 c.f1 b k v' v q hne hc hf hq' hq
    refine ⟨⟨inner, own_move hi (fun q e => hg.block q (own_lt hi q e) (fun e' => hdis q e e'.symm)), hrep⟩, fun q hq hq' => ?_⟩
    rcases hat with hat | ⟨b0, hb0, hle⟩
    · exact hdis q hq (hat ▸ hq')
    · rw [hb0] at hq'
      injection hq' with hq'
      have := own_lt hi q hq
      omega
  refine ⟨fun b k h0 => ?_, fun b k h0 => ?_, fun b k b' k' v v' q hne hv hv' hq => ?_⟩
  · by_cases e : c.f0 = b ∧ c.f1 = k
    · obtain ⟨rfl, rfl⟩ := e
      rw [hitsS_same] at h0
      simp at h0
    · rw [setAt_other _ _ (fun e' => e (by have := placeV_inj e'; exact ⟨this.1.symm, this.2.symm⟩))]
      rw [hitsS_other _ _ e] at h0
      exact h.no b k h0
  · by_cases e : c.f0 = b ∧ c.f1 = k
    · obtain ⟨rfl, rfl⟩ := e
      rw [hitsS_same, setAt_same]
      exact ⟨v1, rfl, ho⟩
    · rw [setAt_other _ _ (fun e' => e (by have := placeV_inj e'; exact ⟨this.1.symm, this.2.symm⟩))]
      rw [hitsS_other _ _ e] at h0 ⊢
      obtain ⟨v, h1, _⟩ := h.yes b k h0
      exact ⟨v, h1, (old b k v e h1).1⟩
  · by_cases e : c.f0 = b ∧ c.f1 = k
    · obtain ⟨rfl, rfl⟩ := e
      have e' : ¬ (c.f0 = b' ∧ c.f1 = k') := hne
      rw [setAt_same] at hv
      injection hv with hv
      subst hv
      rw [setAt_other _ _ (fun e2 => e' (by have := placeV_inj e2; exact ⟨this.1.symm, this.2.symm⟩))] at hv'
      exact fun hq' => (old b' k' v' e' hv').2 q hq' hq
    · rw [setAt_other _ _ (fun e2 => e (by have := placeV_inj e2; exact ⟨this.1.symm, this.2.symm⟩))] at hv
      by_cases e' : c.f0 = b' ∧ c.f1 = k'
      · obtain ⟨rfl, rfl⟩ := e'
        rw [setAt_same] at hv'
        injection hv' with hv'
        subst hv'
        exact (old b k v e hv).2 q hq
      · rw [setAt_other _ _ (fun e2 => e' (by have := placeV_inj e2; exact ⟨this.1.symm, this.2.symm⟩))] at hv'
        exact h.apart b k b' k' v v' q hne hv hv' hq
end
theorem EntryIs.ne_cells {w : World} {b n st : Nat} {f : Value → Option Value} {key : Value} (h : EntryIs Try.prog 100 w b n f key st) {g : Nat} {cs : Array Value} {ty : TypeId} {fr : Nat × Nat} (hg : w.heap[g]? = some (.cells cs ty fr)) : b ≠ g := by
  rintro rfl
  obtain ⟨es, clock, j, e0, hb, _⟩ := h
  rw [hg] at hb
  cases hb
theorem Tab.weaken {w0 W : World} {B B' : Nat} {f : Value → Option Value} {cs : List S66} (h : Tab w0 W B f cs) (hB : B' ≤ B) : Tab w0 W B' f cs := by
  refine ⟨h.no, fun b k h0 => ?_, h.apart⟩
  obtain ⟨v, h1, inner, ho, hr⟩ := h.yes b k h0
  exact ⟨v, h1, inner, own_weaken ho hB, hr⟩
/-- Block mb is the table of changes cs. -/
def TabIs (w0 W : World) (B mb : Nat) (cs : List S66) : Prop := ∃ n f, MapIs Try.prog 100 W mb n f ∧ Tab w0 W B f cs

theorem TabIs.weaken {w0 W : World} {B B' mb : Nat} {cs : List S66} (h : TabIs w0 W B mb cs) (hB : B' ≤ B) : TabIs w0 W B' mb cs := by
  obtain ⟨n, f, h1, h2⟩ := h
  exact ⟨n, f, h1, h2.weaken hB⟩
theorem TabIs.below {w0 W W' : World} {B mb : Nat} {cs : List S66} (h : TabIs w0 W B mb cs) (hb : Below W.heap.size W W') : TabIs w0 W' B mb cs := by
  obtain ⟨n, f, h1, h2⟩ := h
  exact ⟨n, f, h1.below hb, h2.move (fun q c hq => hb.block q (Array.getElem?_eq_some_iff.1 hq).1)⟩
/-- What a world of the walk holds. -/
structure NT (w0 w W : World) (m : Nat) (cs : List S66) : Prop where
  ht : BoxIs W w.heap.size #[.int .i64 0, .map none] 76
  hb : BoxIs W (w.heap.size + 2) #[.int .i64 m, .map (some (w.heap.size + 1))] 76
  tab : TabIs w0 W w.heap.size (w.heap.size + 1) cs
  low : Below w.heap.size w W
theorem NT.start (w0 w : World) (m : Nat) : NT w0 w (((w.alloc (.cells #[.int .i64 0, .map none] 76)).alloc (.map #[] 0)).alloc (.cells #[.int .i64 m, .map (some (w.heap.size + 1))] 76)) m [] := by
  have b1 : BoxIs (w.alloc (.cells #[.int .i64 0, .map none] 76)) w.heap.size #[.int .i64 0, .map none] 76 := heap_alloc_new w _
  have m2 := MapIs.made Try.prog 100 (w.alloc (.cells #[.int .i64 0, .map none] 76))
  rw [World.size_alloc] at m2
  have b3 := heap_alloc_new ((w.alloc (.cells #[.int .i64 0, .map none] 76)).alloc (.map #[] 0)) (.cells #[.int .i64 m, .map (some (w.heap.size + 1))] 76)
  rw [World.size_alloc, World.size_alloc] at b3
  refine ⟨b1.below (below_alloc (below_alloc (Below.refl _ _) _) _) b1.lt, b3, ⟨0, _, m2.below (below_alloc (Below.refl _ _) _), Tab.nil _ _ _⟩, below_alloc (below_alloc (below_alloc (Below.refl _ _) _) _) _⟩

set_option maxRecDepth 100000 in
set_option maxHeartbeats 4000000 in
theorem newTable_any (w0 w : World) (hw0 : Below w0.heap.size w0 w) (n : Int) (hn : n ≤ 1000) (A : Option Addr) (c : Nat) (cs : List S66) (hC : Kd.C k66 w0 A cs.length cs) (hl : cs.length ≤ 1000) (hW : ∀ c ∈ cs, inW c.f0 = true ∧ inW c.f1 = true) :
    Calls Try.prog 27 #[.int .i64 n, .slice A cs.length c] w fun e w' => ∃ mb, e = .returned (.agg #[.int .i64 n.toNat, .map (some mb)]) ∧ w.heap.size ≤ mb ∧ TabIs w0 w' w.heap.size mb cs ∧ Below w.heap.size w w' := by
  have HW0 := Lib.hid hw0
  clear hw0
  obtain ⟨m, hm⟩ : ∃ m : Nat, m = n.toNat := ⟨_, rfl⟩
  have hmx : (if n < 0 then (0 : Int) else n) = ((m : Nat) : Int) := by rw [hm]; split <;> omega
  rw [← hm]
  clear hm
  have hmm := fun W : World => run_makeMap (P := Try.prog) 74 W
  have HC := Lib.hid hC
  clear hC
  go_enter Try.func27, Try.ntmps27
  go_wp2
  clear hmx hmm
  go_loopw [15] (fun u wr => ∃ i : Nat, u = .int .i64 i ∧ i ≤ cs.length ∧ Hid (NT w0 w wr m (cs.take i))) (fun u _ => cs.length - (intOf u).toNat)
  case atStart => exact ⟨0, rfl, Nat.zero_le _, Lib.hid (NT.start w0 w m)⟩
  case round =>
    obtain ⟨i, rfl, hi, hS⟩ := hrel
    by_cases hlt : i < cs.length
    · obtain ⟨ad, A2, d2, A3, d3, rfl, hx0, hx1, hx2, hx3, hl2, hr2, hl3, hr3⟩ := at_T66 HC.out (i : Int) (by omega) (by omega)
      rw [Int.toNat_natCast] at hx0 hx1 hx2 hx3
      have hci : cs[i]? = some (rd_T66 cs i) := by simp [rd_T66, List.getElem?_eq_getElem hlt, List.getD_eq_getElem?_getD]
      have hts : cs.take (i + 1) = cs.take i ++ [rd_T66 cs i] := by rw [List.take_succ, hci]; rfl
      have hKc := k66_mk w0 (rd_T66 cs i) hl2 hr2 hl3 hr3
      have hin := hW _ (List.mem_of_getElem? hci)
      clear hl2 hr2 hl3 hr3 hci
      generalize rd_T66 cs i = ch at *
      obtain ⟨b, k, gl, kl⟩ := ch
      simp only at hx0 hx1 hx2 hx3 hKc hin
      have hlow := hS.out.low
      replace hx0 := pw_cell_below (below_then HW0.out HW0.out.size hlow) hx0
      replace hx1 := pw_cell_below (below_then HW0.out HW0.out.size hlow) hx1
      replace hx2 := pw_cell_below (below_then HW0.out HW0.out.size hlow) hx2
      replace hx3 := pw_cell_below (below_then HW0.out HW0.out.size hlow) hx3
      obtain ⟨n0, f, hM, hTab⟩ := hS.out.tab
      obtain ⟨W3, hW3⟩ : ∃ W3, W3 = ((wr.alloc (.cells #[.int .i64 b, .int .i64 k, .slice A2 gl.length d2, .slice A3 kl.length d3] 66)).alloc (.cells #[.int .i64 b, .int .i64 k] 100)).alloc (.cells #[.int .i64 b, .int .i64 k, .slice A2 gl.length d2, .slice A3 kl.length d3] 66) := ⟨_, rfl⟩
      have hb3 : Below wr.heap.size wr W3 := by rw [hW3]; exact below_alloc (below_alloc (below_alloc (Below.refl _ _) _) _) _
      have hblk3 : W3.heap[wr.heap.size + 2]? = some (.cells #[.int .i64 b, .int .i64 k, .slice A2 gl.length d2, .slice A3 kl.length d3] 66 (0, 0)) := by
        have := heap_alloc_new ((wr.alloc (.cells #[.int .i64 b, .int .i64 k, .slice A2 gl.length d2, .slice A3 kl.length d3] 66)).alloc (.cells #[.int .i64 b, .int .i64 k] 100)) (.cells #[.int .i64 b, .int .i64 k, .slice A2 gl.length d2, .slice A3 kl.length d3] 66)
        rw [World.size_alloc, World.size_alloc] at this
        rw [hW3]; exact this
      have hs3 : W3.heap.size = wr.heap.size + 3 := by rw [hW3]; simp
      obtain ⟨kk, hkk⟩ := place_key hin.1 hin.2
      obtain ⟨st, W4, hme, hE4, hg4⟩ := (hM.below hb3).entry (t := 74) keyed100 Try.underlying74 (zero27 W3) hkk
      have hT4 : Tab w0 W4 w.heap.size f (cs.take i) := (hTab.move (fun q c hq => hb3.block q (Array.getElem?_eq_some_iff.1 hq).1)).move (fun q c hq => hg4.block q (Array.getElem?_eq_some_iff.1 hq).1 (fun e => by injection e with e; exact (hM.below hb3).ne_cells hq e.symm))
      have hblk4 : W4.heap[wr.heap.size + 2]? = some (.cells #[.int .i64 b, .int .i64 k, .slice A2 gl.length d2, .slice A3 kl.length d3] 66 (0, 0)) := (hg4.block _ (by omega) (fun e => by injection e with e; have := hM.lt; omega)).trans hblk3
      obtain ⟨inn, hown, hrep⟩ := hT4.get b k
      obtain ⟨A0, c0, hv0⟩ := own_slice hown
      have hle0 := hitsS_le (cs.take i) b k
      rw [List.length_take] at hle0
      have hme' : (Instr.mapEntry 74 (.map (some (w.heap.size + 1))) (.agg #[.int .i64 b, .int .i64 k])).run Try.prog W3 = .ok (.tuple #[.slice A0 (hitsS (cs.take i) b k).length c0, goInt st]) W4 := by rw [← hv0]; exact hme
      rw [hW3] at hme'
      have hcb0 : ∀ o o', ((wr.alloc o).alloc o').cell? ⟨w.heap.size + 1 + 1, 1, none⟩ = some (.map (some (w.heap.size + 1))) := fun o o' => pw_cell_below (below_alloc (below_alloc (Below.refl _ _) o) o') (hS.out.hb.cell 1 _ rfl)
      have HS := hS
      have HT4 := Lib.hid hT4
      have HE4 := Lib.hid hE4
      have HG4 := Lib.hid hg4
      have HB3 := Lib.hid hb3
      have HOW := Lib.hid hown
      have HREP := Lib.hid hrep
      have HV0 := Lib.hid hv0
      have HBL := Lib.hid hblk4
      have HKC := Lib.hid hKc
      have HTS := Lib.hid hts
      clear hT4 hE4 hg4 hb3 hown hrep hv0 hblk4 hblk3 hKc hts hme hM hTab hS hin hkk hlow
      obtain ⟨i66, hi66, hz66⟩ := Option.map_eq_some_iff.1 info66
      simp only [Prod.mk.injEq] at hz66
      obtain ⟨hz0, hz1, hz2⟩ := hz66
      have hz9 : (Value.agg #[.int .i64 0, .int .i64 0, .slice none 0 0, .slice none 0 0]).cells.size = 4 := rfl
      have hBL4 : ∀ j u, [Value.int .i64 b, .int .i64 k, .slice A2 gl.length d2, .slice A3 kl.length d3][j]? = some u → W4.cell? ((⟨wr.heap.size + 1 + 1, 0, none⟩ : Addr).add j) = some u := fun j u hu => by
        rw [Go.Proofs.YthgnbeeobhfeaaaW.PrintWords.add_plain, blk_cell HBL.out]
        simpa using hu
      have hs4 : wr.heap.size + 3 ≤ W4.heap.size := by have := HG4.out.size; omega
      have hwr : w.heap.size ≤ wr.heap.size := HS.out.low.size
      go_wp2_with (first | (at_builtin; refine wpList_append_own_at W4 rfl (.tmp 27) (.tmp 29) 27 rfl w.heap.size 66 i66 _ 4 64 Try.underlying27 hi66 hz0 hz1 hz2 hz9 (by decide) (.slice A0 (hitsS (cs.take i) b k).length c0) (hitsS (cs.take i) b k).length inn rfl (HV0.out ▸ HOW.out) ⟨wr.heap.size + 1 + 1, 0, none⟩ 1 1 [.int .i64 b, .int .i64 k, .slice A2 gl.length d2, .slice A3 kl.length d3] rfl rfl hBL4 (by simp [Value.oneCell']) (by simp only [maxLen]; omega) (by omega) (by omega) ?_; intro v5 W5 ho5 hg5 _ hat5; obtain ⟨A5, c5, rfl⟩ := own_slice ho5; obtain ⟨W6, hst, hM6, hg6⟩ := (HE4.out.grown hg5 (fun e => by obtain ⟨cc, hcc⟩ := own_typed HOW.out (w.heap.size + 1) (by rw [HV0.out]; exact e.symm); exact EntryIs.ne_cells HE4.out hcc rfl)).store (t := 74) (.slice A5 ((hitsS (cs.take i) b k).length + 1) c5); have hst' : (Instr.entryStore 74 (.map (some (w.heap.size + 1))) (.int .i64 (st : Int)) (.slice A5 ((hitsS (cs.take i) b k).length + 1) c5)).run Try.prog W5 = .ok () W6 := hst; have HO5 := Lib.hid ho5; have HG5 := Lib.hid hg5; have HAT5 := Lib.hid hat5; have HM6 := Lib.hid hM6; have HG6 := Lib.hid hg6; clear ho5 hg5 hat5 hM6 hg6))
      go_roundw
      case rel =>
        refine ⟨i + 1, by go_num, by omega, Lib.hid ?_⟩
        have hrow : ∀ q, (Value.slice A0 (hitsS (cs.take i) b k).length c0).ownBlock = some q → ∃ cc, W4.heap[q]? = some (.cells cc 66 (0, 0)) ∧ w.heap.size ≤ q := fun q e => by
          obtain ⟨cc, hcc⟩ := own_typed HOW.out q (by rw [HV0.out]; exact e)
          exact ⟨cc, hcc, own_base HOW.out q (by rw [HV0.out]; exact e)⟩
        have hfar : ∀ q, q < wr.heap.size → q ≠ w.heap.size + 1 → (∀ cc, W4.heap[q]? ≠ some (.cells cc 66 (0, 0))) → W6.heap[q]? = wr.heap[q]? := fun q hq h1 h2 =>
          (HG6.out.block q (by have := HG5.out.size; omega) (fun e => h1 (by injection e))).trans ((HG5.out.block q (by omega) (fun e => by obtain ⟨cc, hcc, _⟩ := hrow q e.symm; exact h2 cc hcc)).trans ((HG4.out.block q (by omega) (fun e => h1 (by injection e))).trans (HB3.out.block q hq)))
        have h4o : ∀ q o, q < wr.heap.size → q ≠ w.heap.size + 1 → wr.heap[q]? = some o → W4.heap[q]? = some o := fun q o hq h1 ho => ((HG4.out.block q (by omega) (fun e => h1 (by injection e))).trans (HB3.out.block q hq)).trans ho
        have hlow6 : Below w.heap.size w W6 := by
          refine ((HS.out.low.trans (HB3.out.mono hwr)).grown HG4.out (by omega) (fun q e => by injection e with e; omega)).grown HG5.out (by omega) (fun q e => ?_) |>.grown HG6.out (by have := HG5.out.size; omega) (fun q e => by injection e with e; omega)
          obtain ⟨_, _, h⟩ := hrow q e
          exact h
        have hT6 : Tab w0 W5 w.heap.size (setAt f (placeV b k) (.slice A5 ((hitsS (cs.take i) b k).length + 1) c5)) (cs.take i ++ [⟨b, k, gl, kl⟩]) := by
          refine HT4.out.more ⟨b, k, gl, kl⟩ (by rw [HV0.out]; exact HG5.out) ⟨inn ++ [.int .i64 b, .int .i64 k, .slice A2 gl.length d2, .slice A3 kl.length d3], by rw [List.length_append, List.length_singleton]; exact HO5.out, HREP.out.snoc HKC.out rfl⟩ ?_
          rw [HV0.out]
          rcases HAT5.out with h | h
          · exact .inl h
          · exact .inr ⟨_, h, Nat.le_refl _⟩
        rw [HTS.out]
        refine ⟨(hfar _ HS.out.ht.lt (by omega) (fun cc h => by have := h4o _ _ HS.out.ht.lt (by omega) HS.out.ht; rw [h] at this; injection this with this; injection this with _ this; cases this)).trans HS.out.ht, (hfar _ HS.out.hb.lt (by omega) (fun cc h => by have := h4o _ _ HS.out.hb.lt (by omega) HS.out.hb; rw [h] at this; injection this with this; injection this with _ this; cases this)).trans HS.out.hb, ⟨_, _, HM6.out, hT6.move (fun q c hq => HG6.out.block q (Array.getElem?_eq_some_iff.1 hq).1 (fun e => by injection e with e; exact EntryIs.ne_cells (HE4.out.grown HG5.out (fun e => by obtain ⟨cc, hcc⟩ := own_typed HOW.out (w.heap.size + 1) (by rw [HV0.out]; exact e.symm); exact EntryIs.ne_cells HE4.out hcc rfl)) hq e.symm))⟩, hlow6⟩
      case measure => simp [intOf]; omega
    · obtain rfl : i = cs.length := by omega
      have hS := hS.out
      rw [List.take_length] at hS
      have hc0 : wr.cell? ⟨w.heap.size + 1 + 1, 0, none⟩ = some (.int .i64 m) := hS.hb.cell 0 _ rfl
      have hc1 : wr.cell? ⟨w.heap.size + 1 + 1, 1, none⟩ = some (.map (some (w.heap.size + 1))) := hS.hb.cell 1 _ rfl
      have ht0 : wr.cell? ⟨w.heap.size, 0, none⟩ = some (.int .i64 0) := hS.ht.cell 0 _ rfl
      have ht1 : wr.cell? ⟨w.heap.size, 1, none⟩ = some (.map none) := hS.ht.cell 1 _ rfl
      have hf0 : wr.frozen? ⟨w.heap.size, 0, none⟩ = false := frozen_box hS.ht 0
      have hf1 : wr.frozen? ⟨w.heap.size, 1, none⟩ = false := frozen_box hS.ht 1
      have HS := Lib.hid hS
      clear hS
      go_wp2
      have hset : ((wr.setCell ⟨w.heap.size, 0, none⟩ (.int .i64 m)).setCell ⟨w.heap.size, 1, none⟩ (.map (some (w.heap.size + 1)))).heap[w.heap.size]? = some (.cells #[.int .i64 m, .map (some (w.heap.size + 1))] 76 (0, 0)) := set_block (j := 1) (set_block (j := 0) HS.out.ht (.int .i64 m)) (.map (some (w.heap.size + 1)))
      refine bodyPost_ret (results_cell_row rfl _ _ w.heap.size 76 _ _ _ rfl hset Try.underlying76 rfl (by kernel_rfl)) rfl ?_
      have hg : wr.grownBy ((wr.setCell ⟨w.heap.size, 0, none⟩ (.int .i64 m)).setCell ⟨w.heap.size, 1, none⟩ (.map (some (w.heap.size + 1)))) (some w.heap.size) := World.grownBy.trans (set_grown wr w.heap.size 0 _) (set_grown _ w.heap.size 1 _)
      obtain ⟨n0, f, hM, hT⟩ := HS.out.tab
      refine ⟨w.heap.size + 1, rfl, by omega, ⟨n0, f, hM.grown hg (fun e => by injection e with e; omega), hT.move (fun q c hq => hg.block q (Array.getElem?_eq_some_iff.1 hq).1 (fun e => by injection e with e; subst e; have := HS.out.ht; unfold BoxIs at this; rw [hq] at this; injection this with this; injection this with _ this; cases this))⟩, HS.out.low.grown hg HS.out.low.size (fun q e => by injection e with e; omega)⟩
end Go.Proofs.Ythgnbeeobhfeaaa.T
end

section
/- Walks: what a step makes of flags (the program's). -/
namespace Go.Proofs.Ythgnbeeobhfeaaa.T
open Go.RowKit Go.Shelf Go.Proofs.YthgnbeeobhfeaaaW.PrintWords Go.Proofs.YthgnbeeobhfeaaaW.PrintLast

theorem put_from (l : List Int) (v : Bool) (hn : l.length ≤ 9223372036854775807) (d : Nat) : ∀ (k i : Nat) (x : List Bool), i ≤ l.length → l.length - i = d → d < k →
    graph_put.l0 k x v l (l.length : Int) (i : Int) = some (putL x (l.drop i) v) := by
  induction d with
  | zero =>
    intro k i x hi hd hk
    obtain ⟨k, rfl⟩ : ∃ m, k = m + 1 := ⟨k - 1, by omega⟩
    simp only [graph_put.l0]
    rw [if_neg (by omega), List.drop_eq_nil_of_le (by omega)]
    rfl
  | succ d ih =>
    intro k i x hi hd hk
    obtain ⟨k, rfl⟩ : ∃ m, k = m + 1 := ⟨k - 1, by omega⟩
    have hlt : i < l.length := by omega
    have hr : rd l (i : Int) = l[i] := by simp [rd, List.getD_eq_getElem?_getD, List.getElem?_eq_getElem hlt]
    have hw : wrap64 ((i : Int) + 1) = ((i + 1 : Nat) : Int) := by rw [wrap_up (n := l.length) (by omega) (by omega) hn]; omega
    simp only [graph_put.l0]
    rw [if_pos (by omega), if_pos (by omega), if_pos (by omega), hr, hw, List.drop_eq_getElem_cons hlt, putL_cons]
    by_cases h0 : l[i] ≥ 0
    · rw [if_pos h0]
      by_cases h1 : l[i] < (x.length : Int)
      · rw [if_pos h1, if_pos h0, if_pos ⟨h0, h1⟩]
        exact ih k (i + 1) _ (by omega) (by omega) (by omega)
      · rw [if_neg h1, if_neg (fun h => h1 h.2)]
        exact ih k (i + 1) _ (by omega) (by omega) (by omega)
    · rw [if_neg h0, if_neg (fun h => h0 h.1)]
      exact ih k (i + 1) _ (by omega) (by omega) (by omega)
theorem put_f (x : List Bool) (l : List Int) (v : Bool) (hn : l.length ≤ 9223372036854775807) : graph_put.f (l.length + 1) x l v = some (putL x l v) := by
  have := put_from l v hn l.length (l.length + 1) 0 x (by omega) (by omega) (by omega)
  simpa [graph_put.f] using this
/-- put, of a row of the call's own. -/
theorem put_any {W0 W : World} {u : Value} {x : List Bool} (A : Option Addr) (c : Nat) (l : List Int) (v : Bool) (hb : Below W0.heap.size W0 W) (ho : OB W W0.heap.size u x) (hC : (Kd.int .i64).C W0 A l.length l) (hc : l.length ≤ c) :
    Calls Try.prog 55 #[u, .slice A l.length c, .bool v] W fun e W' => e = .returned (.tuple #[]) ∧ OB W' W0.heap.size u (putL x l v) ∧ Below W0.heap.size W0 W' := by
  have hF := Kd.F_below (Kd.C_F (Kd.heap_int .i64) hC) hb
  refine (graph_put.calls (l.length + 1) (fun k => some k = u.ownBlock) u x A c l v _ W0 W hb (Kd.R_of_own ho (fun k e => e.symm)) (fun W_ hk => Kd.F_now (Kd.F_kept hF hk (fun k hk' e => by have := own_base ho k e.symm; omega))) hc (put_f x l v hC.2.1)).mono ?_
  rintro e W' ⟨rfl, h1, h2, _⟩
  exact ⟨rfl, by simpa using Kd.own_of_R h1, h2⟩

set_option maxRecDepth 100000 in
set_option maxHeartbeats 4000000 in
theorem step_any {w0 W : World} {B0 B mb : Nat} {cs : List S66} {u : Value} {x : List Bool} (N : Int) (b k : Int) (hT : TabIs w0 W B0 mb cs) (hw : Below w0.heap.size w0 W) (hl : cs.length ≤ 1000) (hx : x.length ≤ 1000) (hb : inW b = true) (hk : inW k = true) (ho : OB W B u x) (hB : B ≤ W.heap.size) :
    Calls Try.prog 39 #[.agg #[.int .i64 N, .map (some mb)], u, .int .i64 b, .int .i64 k] W fun e W' => ∃ v, e = .returned v ∧ OB W' B v (stepL (chsOf cs) b k x) ∧ Below W.heap.size W W' := by
  obtain ⟨n0, f, hM, hTab⟩ := hT
  obtain ⟨kk, hkk⟩ := place_key hb hk
  have hlk := fun W' (h : Below W.heap.size W W') => (hM.below h).lookup (t := 74) keyed100 Try.underlying74 (zero27 W') hkk
  obtain ⟨A, c, hv, hcn, hrd⟩ := OwnRow.reads (hTab.get b k)
  have hCh : Kd.C k66 W A (hitsS cs b k).length (hitsS cs b k) := ReadsRow.imp_ hrd (Below.refl _ _) (fun p cc h => k66.K_below hw h)
  have hle := hitsS_le cs b k
  have hst : stepL (chsOf cs) b k x = (hitsS cs b k).foldl (fun s c => putL s c.f2 true) ((hitsS cs b k).foldl (fun s c => putL s c.f3 false) x) := by
    unfold stepL
    rw [← hitsS_chs]
    simp only [chsOf, List.foldl_map]
  rw [hst]
  rw [hv] at hlk
  generalize hitsS cs b k = hs at *
  have hlk' : ∀ o, (Instr.lookup 74 (.map (some mb)) (.agg #[.int .i64 b, .int .i64 k]) false).run Try.prog (W.alloc o) = .ok (.slice A hs.length c) (W.alloc o) := fun o => hlk _ (below_alloc (Below.refl _ _) o)
  have HC := Lib.hid hCh
  have HO := Lib.hid ho
  obtain ⟨Au, cu, rfl⟩ := own_slice ho
  clear hlk hCh hrd hv hTab hM hst ho
  rcases Nat.eq_zero_or_pos hs.length with h0 | h0
  · obtain rfl := List.eq_nil_of_length_eq_zero h0
    go_enter Try.func39, Try.ntmps39
    go_wp2
    go_ret
    exact ⟨_, rfl, pw_own_below HO.out (below_alloc (Below.refl _ _) _), below_alloc (Below.refl _ _) _⟩
  · have hz : ((hs.length : Int) == 0) = false := by rw [beq_eq_false_iff_ne]; omega
    obtain ⟨Ax, cx, hvx, hcx, hCx⟩ := HO.out.reads
    injection hvx with e1 e2 e3
    subst e1
    subst e3
    have HCX := Lib.hid hCx
    clear hCx
    go_enter Try.func39, Try.ntmps39
    go_wp2_with fail
    refine (clone_any _ Au cu x (Kd.C_below HCX.out (below_alloc (Below.refl _ _) _)) hcx (by omega)).mono ?_
    rintro e W1 ⟨u1, rfl, ho1, hb1⟩
    have hb1' : Below W.heap.size W W1 := (below_alloc (Below.refl _ W) _).trans (hb1.mono (by simp))
    have HO1 := Lib.hid (own_weaken ho1 (show W.heap.size ≤ _ by simp))
    have HB1 := Lib.hid hb1'
    obtain ⟨A1, c1, rfl⟩ := own_slice ho1
    clear ho1 hb1 hb1' hlk' hz
    go_wp2_with fail
    go_loopw [28] (fun s wr => ∃ i : Nat, s = .int .i64 i ∧ i ≤ hs.length ∧ Hid (OB wr W.heap.size (.slice A1 x.length c1) ((hs.take i).foldl (fun s c => putL s c.f3 false) x)) ∧ Hid (Below W.heap.size W wr)) (fun s _ => hs.length - (intOf s).toNat)
    case atStart => exact ⟨0, rfl, Nat.zero_le _, HO1, HB1⟩
    case round =>
      clear HO1 HB1
      obtain ⟨i, rfl, hi, HO1, HB1⟩ := hrel
      by_cases hlt : i < hs.length
      · have hci : hs[i]? = some (rd_T66 hs i) := by simp [rd_T66, List.getElem?_eq_getElem hlt, List.getD_eq_getElem?_getD]
        have hts : Hid ((hs.take (i + 1)).foldl (fun s c => putL s c.f3 false) x = putL ((hs.take i).foldl (fun s c => putL s c.f3 false) x) (rd_T66 hs i).f3 false) := Lib.hid (by
          rw [List.take_succ, hci, List.foldl_append]; rfl)
        obtain ⟨ad, A2, d2, A3, d3, rfl, hx0, hx1, hx2, hx3, hl2, hr2, hl3, hr3⟩ := at_T66 HC.out (i : Int) (by omega) (by omega)
        rw [Int.toNat_natCast] at hx0 hx1 hx2 hx3
        replace hx0 := pw_cell_below HB1.out hx0
        replace hx1 := pw_cell_below HB1.out hx1
        replace hx2 := pw_cell_below HB1.out hx2
        replace hx3 := pw_cell_below HB1.out hx3
        have HR := Lib.hid hr3
        clear hci hr2 hr3
        go_wp2_with fail
        refine (put_any A3 d3 (rd_T66 hs i).f3 false (W0 := W) (below_alloc HB1.out _) (pw_own_below HO1.out (below_alloc (Below.refl _ _) _)) HR.out hl3).mono ?_
        rintro e wr2 ⟨rfl, ho2, hb2⟩
        have HO2 := Lib.hid ho2
        have HB2 := Lib.hid hb2
        clear ho2 hb2
        go_wp2_with fail
        go_roundw
        case rel => exact ⟨i + 1, by go_num, by omega, Lib.hid (by rw [hts.out]; exact HO2.out), HB2⟩
        case measure => simp [intOf]; omega
      · obtain rfl : i = hs.length := by omega
        rw [List.take_length] at HO1
        clear hlt hi
        go_wp2_with fail
        go_loopw [39] (fun s wr => ∃ i : Nat, s = .int .i64 i ∧ i ≤ hs.length ∧ Hid (OB wr W.heap.size (.slice A1 x.length c1) ((hs.take i).foldl (fun s c => putL s c.f2 true) (hs.foldl (fun s c => putL s c.f3 false) x))) ∧ Hid (Below W.heap.size W wr)) (fun s _ => hs.length - (intOf s).toNat)
        case atStart => exact ⟨0, rfl, Nat.zero_le _, HO1, HB1⟩
        case round =>
          clear HO1 HB1
          obtain ⟨i, rfl, hi, HO1, HB1⟩ := hrel
          by_cases hlt : i < hs.length
          · have hci : hs[i]? = some (rd_T66 hs i) := by simp [rd_T66, List.getElem?_eq_getElem hlt, List.getD_eq_getElem?_getD]
            have hts : Hid ((hs.take (i + 1)).foldl (fun s c => putL s c.f2 true) (hs.foldl (fun s c => putL s c.f3 false) x) = putL ((hs.take i).foldl (fun s c => putL s c.f2 true) (hs.foldl (fun s c => putL s c.f3 false) x)) (rd_T66 hs i).f2 true) := Lib.hid (by
              rw [List.take_succ, hci, List.foldl_append]; rfl)
            obtain ⟨ad, A2, d2, A3, d3, rfl, hx0, hx1, hx2, hx3, hl2, hr2, hl3, hr3⟩ := at_T66 HC.out (i : Int) (by omega) (by omega)
            rw [Int.toNat_natCast] at hx0 hx1 hx2 hx3
            replace hx0 := pw_cell_below HB1.out hx0
            replace hx1 := pw_cell_below HB1.out hx1
            replace hx2 := pw_cell_below HB1.out hx2
            replace hx3 := pw_cell_below HB1.out hx3
            have HR := Lib.hid hr2
            clear hci hr2 hr3
            go_wp2_with fail
            refine (put_any A2 d2 (rd_T66 hs i).f2 true (W0 := W) (below_alloc HB1.out _) (pw_own_below HO1.out (below_alloc (Below.refl _ _) _)) HR.out hl2).mono ?_
            rintro e wr2 ⟨rfl, ho2, hb2⟩
            have HO2 := Lib.hid ho2
            have HB2 := Lib.hid hb2
            clear ho2 hb2
            go_wp2_with fail
            go_roundw
            case rel => exact ⟨i + 1, by go_num, by omega, Lib.hid (by rw [hts.out]; exact HO2.out), HB2⟩
            case measure => simp [intOf]; omega
          · obtain rfl : i = hs.length := by omega
            rw [List.take_length] at HO1
            clear hlt hi
            go_wp2_with fail
            go_ret
            exact ⟨_, rfl, own_weaken HO1.out hB, HB1.out⟩
end Go.Proofs.Ythgnbeeobhfeaaa.T
end

section
/- Walks: the state ahead of a block (the program's). -/
namespace Go.Proofs.Ythgnbeeobhfeaaa.T
open Go.RowKit Go.Shelf Go.Proofs.YthgnbeeobhfeaaaW.PrintWords Go.Proofs.YthgnbeeobhfeaaaW.PrintLast

/-! ### Plainly -/
def mergeB (e x y : Bool) : Bool := if e then x && y else x || y
def mergeL (e : Bool) (x y : List Bool) : List Bool := List.zipWith (mergeB e) x y
/-- What comes to a block: of what its forerunners leave (o). -/
noncomputable def comeL (bs : List Bk) (e : Bool) (o : Nat → List Bool) (l : List Int) (x : List Bool) : List Bool := l.foldl (fun s p => if rchB bs p.toNat then mergeL e s (o p.toNat) else s) x
noncomputable def intoL (bs : List Bk) (N : Nat) (first : List Bool) (e : Bool) (o : Nat → List Bool) (n : Nat) : List Bool :=
  comeL bs e o (predsL bs n) (if n = 0 then first else List.replicate N e)

/-- Merged up to a flag. -/
def mergeT (e : Bool) (x y : List Bool) (t : Nat) : List Bool := (mergeL e x y).take t ++ x.drop t
theorem mergeL_length {e : Bool} {x y : List Bool} (h : x.length = y.length) : (mergeL e x y).length = x.length := by simp [mergeL, h]
theorem mergeT_zero (e : Bool) (x y : List Bool) : mergeT e x y 0 = x := by simp [mergeT]
theorem mergeT_all {e : Bool} {x y : List Bool} (h : x.length = y.length) : mergeT e x y x.length = mergeL e x y := by
  unfold mergeT
  rw [List.take_of_length_le (by rw [mergeL_length h]; exact Nat.le_refl _), List.drop_eq_nil_of_le (Nat.le_refl _), List.append_nil]
theorem mergeT_length {e : Bool} {x y : List Bool} (h : x.length = y.length) (t : Nat) (ht : t ≤ x.length) : (mergeT e x y t).length = x.length := by
  simp only [mergeT, List.length_append, List.length_take, List.length_drop, mergeL_length h]; omega
theorem mergeT_at {e : Bool} {x y : List Bool} (h : x.length = y.length) {t : Nat} {a : Bool} (ht : x[t]? = some a) : (mergeT e x y t)[t]? = some a := by
  have hlt := (List.getElem?_eq_some_iff.1 ht).1
  unfold mergeT
  rw [List.getElem?_append_right (by rw [List.length_take, mergeL_length h]; omega), List.length_take, mergeL_length h, List.getElem?_drop]
  rw [show t + (t - min t x.length) = t by omega]
  exact ht
theorem mergeT_step {e : Bool} {x y : List Bool} (h : x.length = y.length) {t : Nat} {a b : Bool} (hx : x[t]? = some a) (hy : y[t]? = some b) : (mergeT e x y t).set t (mergeB e a b) = mergeT e x y (t + 1) := by
  have hlt := (List.getElem?_eq_some_iff.1 hx).1
  apply List.ext_getElem?
  intro j
  have hm : ∀ i : Nat, (mergeL e x y)[i]? = (x[i]?).bind fun u => (y[i]?).map fun v => mergeB e u v := by
    intro i
    simp only [mergeL, List.getElem?_zipWith]
    cases x[i]? <;> cases y[i]? <;> rfl
  by_cases e1 : t = j
  · subst e1
    rw [List.getElem?_set_self (by rw [mergeT_length h t (by omega)]; exact hlt)]
    unfold mergeT
    rw [List.getElem?_append_left (by rw [List.length_take, mergeL_length h]; omega), List.getElem?_take, if_pos (by omega), hm, hx, hy]
    rfl
  · rw [List.getElem?_set_ne e1]
    unfold mergeT
    by_cases h2 : j < t
    · rw [List.getElem?_append_left (by rw [List.length_take, mergeL_length h]; omega), List.getElem?_append_left (by rw [List.length_take, mergeL_length h]; omega), List.getElem?_take, if_pos h2, List.getElem?_take, if_pos (by omega)]
    · rw [List.getElem?_append_right (by rw [List.length_take, mergeL_length h]; omega), List.getElem?_append_right (by rw [List.length_take, mergeL_length h]; omega), List.getElem?_drop, List.getElem?_drop, List.length_take, List.length_take, mergeL_length h]
      congr 1
      omega
theorem comeL_snoc (bs : List Bk) (e : Bool) (o : Nat → List Bool) (l : List Int) (p : Int) (x : List Bool) : comeL bs e o (l ++ [p]) x = if rchB bs p.toNat then mergeL e (comeL bs e o l x) (o p.toNat) else comeL bs e o l x := by
  simp [comeL, List.foldl_append]
theorem comeL_length {bs : List Bk} {e : Bool} {o : Nat → List Bool} {N : Nat} (ho : ∀ i, (o i).length = N) : ∀ (l : List Int) {x : List Bool}, x.length = N → (comeL bs e o l x).length = N
  | [], _, h => h
  | p :: l, x, h => by
    show (comeL bs e o l _).length = N
    refine comeL_length ho l ?_
    dsimp only
    split
    · rw [mergeL_length (by rw [h, ho]), h]
    · exact h
theorem predsL_mem {bs : List Bk} {n : Nat} {x : Int} (h : x ∈ predsL bs n) : ∃ i : Nat, x = i ∧ i < bs.length := by
  simp only [predsL, List.mem_map, List.mem_filter, List.mem_range] at h
  obtain ⟨i, ⟨h1, _⟩, rfl⟩ := h
  exact ⟨i, rfl, h1⟩
theorem predsL_le (bs : List Bk) (n : Nat) : (predsL bs n).length ≤ bs.length := by
  unfold predsL
  rw [List.length_map]
  exact Nat.le_trans (List.length_filter_le _ _) (by simp)

/-! ### The walk -/
/-- A flow (block gf), and what it leads to. o: what each block leaves, by now. -/
structure FlowAt (w0 W : World) (gf mb N : Nat) (s : ByteArray) (p : Int) (A2 : Option Addr) (n2 c2 : Nat) (A3 : Option Addr) (c3 : Nat) (l03 : List S58) (cs : List S66) (first : List Bool) (every : Bool) (vf vr vp vo : Value) (o : Nat → List Bool) : Prop where
  blk : BoxIs W gf #[.int .i64 N, .map (some mb), .string s, .int .i64 p, .slice A2 n2 c2, .slice A3 l03.length c3, vf, .bool every, vr, vp, vo] 79
  tab : TabIs w0 W w0.heap.size mb cs
  low : Below w0.heap.size w0 W
  fst : OB W w0.heap.size vf first
  rch : OB W w0.heap.size vr (reachL (bksOf l03))
  prd : ∃ vs, RR W w0.heap.size 3 42 (fun _ => True) vp vs (((List.range l03.length).map (predsL (bksOf l03))).map (encs (Value.int .i64)))
  out : ∃ vs, W.ownsRow w0.heap.size 26 1 vo vs.length vs ∧ vs.length = l03.length ∧ ∀ i u, vs[i]? = some u → OB W w0.heap.size u (o i)
section
variable {w0 W W' : World} {gf mb N : Nat} {s : ByteArray} {p : Int} {A2 : Option Addr} {n2 c2 : Nat} {A3 : Option Addr} {c3 : Nat} {l03 : List S58} {cs : List S66} {first : List Bool} {every : Bool} {vf vr vp vo : Value} {o : Nat → List Bool}
theorem FlowAt.below (h : FlowAt w0 W gf mb N s p A2 n2 c2 A3 c3 l03 cs first every vf vr vp vo o) (hb : Below W.heap.size W W') : FlowAt w0 W' gf mb N s p A2 n2 c2 A3 c3 l03 cs first every vf vr vp vo o := by
  obtain ⟨n0, f, hM, hT⟩ := h.tab
  obtain ⟨vs, hp⟩ := h.prd
  obtain ⟨us, h1, h2, h3⟩ := h.out
  exact ⟨h.blk.below hb h.blk.lt, ⟨n0, f, hM.below hb, hT.move (fun k c hk => hb.block k (Array.getElem?_eq_some_iff.1 hk).1)⟩, below_then h.low h.low.size hb, pw_own_below h.fst hb, pw_own_below h.rch hb, ⟨vs, hp.below hb⟩, us, pw_own_below h1 hb, h2, fun i u hu => pw_own_below (h3 i u hu) hb⟩
end

set_option maxRecDepth 100000 in
set_option maxHeartbeats 8000000 in
theorem into_any {w0 W : World} {gf mb N : Nat} {s : ByteArray} {p : Int} {A2 : Option Addr} {n2 c2 : Nat} {A3 : Option Addr} {c3 : Nat} {l03 : List S58} {cs : List S66} {first : List Bool} {every : Bool} {vf vr vp vo : Value} {o : Nat → List Bool}
    (h : FlowAt w0 W gf mb N s p A2 n2 c2 A3 c3 l03 cs first every vf vr vp vo o) (hN : N ≤ 1048576) (hfl : first.length = N) (ho : ∀ i, (o i).length = N) (n : Nat) (hn : n < l03.length) (hm : l03.length ≤ 1000) :
    Calls Try.prog 52 #[.pointer (some ⟨gf, 0, none⟩), .int .i64 n] W fun e W' => ∃ v, e = .returned v ∧ OB W' W.heap.size v (intoL (bksOf l03) N first every o n) ∧ Below W.heap.size W W' := by
  have hcell : ∀ {W' : World}, Below W.heap.size W W' → ∀ j v, (#[Value.int .i64 N, .map (some mb), .string s, .int .i64 p, .slice A2 n2 c2, .slice A3 l03.length c3, vf, .bool every, vr, vp, vo] : Array Value)[j]? = some v → W'.cell? ⟨gf, j, none⟩ = some v := fun hb j v hv => (h.blk.below hb h.blk.lt).cell j v hv
  obtain ⟨pvs, hprr⟩ := h.prd
  have hpl : pvs.length = l03.length := by rw [hprr.len]; simp
  obtain ⟨gp, capp, rfl, _, _⟩ := hprr.form (by omega)
  obtain ⟨up, hup⟩ : ∃ u, pvs[n]? = some u := ⟨_, List.getElem?_eq_getElem (by omega)⟩
  have hupo := hprr.inn n up (encs (Value.int .i64) (predsL (bksOf l03) n)) hup (by rw [List.getElem?_map, List.getElem?_map, List.getElem?_range hn]; rfl)
  rw [encs_length] at hupo
  obtain ⟨Ap, cpl, rfl, hcpl, hCp⟩ := Kd.R_reads (Kd.R_of_own (h1 := fun _ => rfl) (enc := Value.int .i64) (ok := fun _ => True) hupo (fun _ _ => trivial))
  have hCp : (Kd.int .i64).C W Ap (predsL (bksOf l03) n).length (predsL (bksOf l03) n) := hCp
  have hpcell : ∀ W' : World, Below W.heap.size W W' → W'.cell? ⟨gp, n, none⟩ = some (.slice Ap (predsL (bksOf l03) n).length cpl) := fun _ hb => pw_cell_below hb (hprr.cell hup)
  have hmem : ∀ x ∈ predsL (bksOf l03) n, ∃ i : Nat, x = i ∧ i < l03.length := fun x hx => by obtain ⟨i, e, hi⟩ := predsL_mem hx; exact ⟨i, e, by rwa [bksOf_length] at hi⟩
  have hple := predsL_le (bksOf l03) n
  rw [bksOf_length] at hple
  have hinto : intoL (bksOf l03) N first every o n = comeL (bksOf l03) every o (predsL (bksOf l03) n) (if n = 0 then first else List.replicate N every) := rfl
  rw [hinto]
  generalize predsL (bksOf l03) n = pl at *
  obtain ⟨X0, hX0⟩ : ∃ X0, X0 = (if n = 0 then first else List.replicate N every) := ⟨_, rfl⟩
  have HX0 : X0.length = N := by rw [hX0]; split <;> simp [hfl]
  rw [← hX0]
  have HXX := Lib.hid hX0
  clear hX0
  obtain ⟨ovs, hou1, hou2, hou3⟩ := h.out
  obtain ⟨go, capo, rfl, _, _⟩ := hou1.form (by omega)
  have hrl : (reachL (bksOf l03)).length = l03.length := by simp [reachL, bksOf_length]
  have hrow := h.rch
  obtain ⟨gr, capr, rfl, _, _⟩ := hrow.form (by omega)
  have hrcell : ∀ W' : World, Below W.heap.size W W' → ∀ i, i < l03.length → W'.cell? ⟨gr, i, none⟩ = some (.bool (rchB (bksOf l03) i)) := fun _ hb i hi => by
    have := hrow.cells (g := gr) rfl i (.bool (rchB (bksOf l03) i)) (by simp [encs, reachL, bksOf_length, hi])
    rw [add_plain] at this
    exact pw_cell_below hb this
  have hocell : ∀ i, i < l03.length → ∃ Ao co, o i = o i ∧ (∀ W' : World, Below W.heap.size W W' → W'.cell? ⟨go, i, none⟩ = some (.slice Ao N co)) ∧ Kd.bool.C W Ao N (o i) := fun i hi => by
    obtain ⟨u, hu⟩ : ∃ u, ovs[i]? = some u := ⟨_, List.getElem?_eq_getElem (by omega)⟩
    obtain ⟨Ao, co, rfl, _, hCo⟩ := OB.reads (hou3 i u hu)
    have h1 := hou1.cells (g := go) rfl i _ hu
    rw [add_plain] at h1
    rw [ho i] at h1 hCo
    exact ⟨Ao, co, rfl, fun _ hb => pw_cell_below hb h1, hCo⟩
  have hc9 : ∀ W' : World, Below W.heap.size W W' → W'.cell? ⟨gf, 9, none⟩ = some (.slice (some ⟨gp, 0, none⟩) l03.length capp) := fun _ hb => by have := hcell hb 9 _ rfl; rwa [hpl] at this
  have hc8 : ∀ W' : World, Below W.heap.size W W' → W'.cell? ⟨gf, 8, none⟩ = some (.slice (some ⟨gr, 0, none⟩) l03.length capr) := fun _ hb => by have := hcell hb 8 _ rfl; rwa [hrl] at this
  have hc10 : ∀ W' : World, Below W.heap.size W W' → W'.cell? ⟨gf, 10, none⟩ = some (.slice (some ⟨go, 0, none⟩) l03.length capo) := fun _ hb => by have := hcell hb 10 _ rfl; rwa [hou2] at this
  have hc7 : ∀ W' : World, Below W.heap.size W W' → W'.cell? ⟨gf, 7, none⟩ = some (.bool every) := fun _ hb => hcell hb 7 _ rfl
  have HCP := Lib.hid hCp
  have HC7 := Lib.hid hc7
  have HC8 := Lib.hid hc8
  have HC9 := Lib.hid hc9
  have HC10 := Lib.hid hc10
  have HPC := Lib.hid hpcell
  have HRC := Lib.hid hrcell
  have HOC := Lib.hid hocell
  have HOL := Lib.hid ho
  have HMEM := Lib.hid hmem
  have q0 : ((0 : Int) ≤ (n : Int)) = True := eq_true (by omega)
  have q1 : ((n : Int) < (l03.length : Int)) = True := eq_true (by omega)
  clear hc7 hc8 hc9 hc10 hpcell hrcell hocell hCp hprr hup hupo hou1 hou3 hrow ho hmem hinto
  go_enter Try.func52, Try.ntmps52
  go_wp2_with fail
  rename_i K hK
  refine start_ (n := 10) (S := fun w' => w'.cell? ⟨gf, 0, none⟩ = some (.int .i64 N) ∧ w'.cell? ⟨gf, 1, none⟩ = some (.map (some mb)) ∧ w'.cell? ⟨gf, 7, none⟩ = some (.bool every)) (ds := []) #[false, false, false, false, false, false, false, false, false, false] (by kernel_rfl) rfl rfl ⟨hcell (below_drew (Below.refl _ _)) 0 _ rfl, hcell (below_drew (Below.refl _ _)) 1 _ rfl, hcell (below_drew (Below.refl _ _)) 7 _ rfl⟩ (fun hHeld => ?_)
  refine pure_ (i := 0) (N := some 10) (v := ?_) (a' := ?_) #[true, false, false, false, false, false, false, false, false, false] rfl rfl (by kernel_rfl) (fun _ _ _ h => h) (Or.inl ⟨by rfl, ?_⟩) ?_ ?_
  rotate_left
  · intro w'
    go_simp
    with_reducible rfl
  rotate_left
  · simp only [Act.put, List.setIfInBounds_toArray, List.set_cons_zero, List.set_cons_succ, i64_w, i32_w]
    rfl
  refine pure_ (i := 1) (N := some 11) (v := ?_) (a' := ?_) #[true, true, false, false, false, false, false, false, false, false] rfl rfl (by kernel_rfl) (fun _ _ _ h => h) (Or.inl ⟨by rfl, ?_⟩) ?_ ?_
  rotate_left
  · intro w'
    go_simp
    with_reducible rfl
  rotate_left
  · simp only [Act.put, List.setIfInBounds_toArray, List.set_cons_zero, List.set_cons_succ, i64_w, i32_w]
    rfl
  refine pure_ (i := 2) (N := some 12) (v := ?_) (a' := ?_) #[true, true, true, false, false, false, false, false, false, false] rfl rfl (by kernel_rfl) (fun _ _ _ h => h) (Or.inl ⟨by rfl, ?_⟩) ?_ ?_
  rotate_left
  · intro w'
    go_simp
    with_reducible rfl
  rotate_left
  · simp only [Act.put, List.setIfInBounds_toArray, List.set_cons_zero, List.set_cons_succ, i64_w, i32_w]
    rfl
  refine pure_ (i := 4) (N := some 14) (v := ?_) (a' := ?_) #[true, true, true, false, true, false, false, false, false, false] rfl rfl (by kernel_rfl) (fun _ _ _ h => h) (Or.inl ⟨by rfl, ?_⟩) ?_ ?_
  rotate_left
  · intro w'
    go_simp
    with_reducible rfl
  rotate_left
  · simp only [Act.put, List.setIfInBounds_toArray, List.set_cons_zero, List.set_cons_succ, i64_w, i32_w]
    rfl
  refine pure_ (i := 5) (N := some 15) (v := ?_) (a' := ?_) #[true, true, true, false, true, true, false, false, false, false] rfl rfl (by kernel_rfl) (fun _ _ _ h => h) (Or.inl ⟨by rfl, ?_⟩) ?_ ?_
  rotate_left
  · intro w'
    go_simp
    with_reducible rfl
  rotate_left
  · simp only [Act.put, List.setIfInBounds_toArray, List.set_cons_zero, List.set_cons_succ, i64_w, i32_w]
    rfl
  refine pure_ (i := 6) (N := some 16) (v := ?_) (a' := ?_) #[true, true, true, false, true, true, true, false, false, false] rfl rfl (by kernel_rfl) (fun _ _ _ h => h) (Or.inl ⟨by rfl, ?_⟩) ?_ ?_
  rotate_left
  · intro w'
    go_simp
    with_reducible rfl
  rotate_left
  · simp only [Act.put, List.setIfInBounds_toArray, List.set_cons_zero, List.set_cons_succ, i64_w, i32_w]
    rfl
  refine take_ (i := 3) (N := some 13) (v := ?_) (a' := ?_) #[true, true, true, true, true, true, true, false, false, false] rfl rfl (by kernel_rfl) (fun _ _ _ h => h) (Or.inl ⟨by rfl, ?_⟩) hHeld ?_ ?_
  rotate_left
  · rintro w' ⟨s0, s1, s2⟩
    go_simp
    with_reducible rfl
  rotate_left
  · simp only [Act.put, List.setIfInBounds_toArray, List.set_cons_zero, List.set_cons_succ, i64_w, i32_w]
    rfl
  refine take_ (i := 7) (N := some 17) (v := ?_) (a' := ?_) #[true, true, true, true, true, true, true, true, false, false] rfl rfl (by kernel_rfl) (fun _ _ _ h => h) (Or.inl ⟨by rfl, ?_⟩) hHeld ?_ ?_
  rotate_left
  · rintro w' ⟨s0, s1, s2⟩
    go_simp
    with_reducible rfl
  rotate_left
  · simp only [Act.put, List.setIfInBounds_toArray, List.set_cons_zero, List.set_cons_succ, i64_w, i32_w]
    rfl
  refine one_ (i := 8) (N := some 18) #[true, true, true, true, true, true, true, true, true, false] rfl rfl (by kernel_rfl) (by decide) (fun K hK => ?_)
  refine goes_ Try.func28 (by kernel_rfl) rfl #[.agg #[.int .i64 N, .map (some mb)], .bool every] (by rfl) rfl rfl (by simp only [List.map_toArray, List.map_cons, List.map_nil]; rfl) ?_
  with_reducible refine (flags_any _ N (some mb) every hN).mono ?_
  rintro e w3 ⟨v3, rfl, ho3, hb3⟩
  refine ⟨_, rfl, ?_⟩
  have hb3' : Below W.heap.size W w3 := below_then (below_drew (Below.refl _ _)) (Nat.le_refl _) hb3
  refine hK.out _ _ ⟨hcell (hb3') 0 _ rfl, hcell (hb3') 1 _ rfl, hcell (hb3') 7 _ rfl⟩ (fun hHeld => ?_)
  clear hK K
  refine norm_ (a' := ?_) ?_ ?_
  rotate_left
  · show Act.put _ (some 18) _ = _
    simp only [Act.put, List.setIfInBounds_toArray, List.set_cons_zero, List.set_cons_succ, i64_w, i32_w]
    rfl
  refine pure_ (i := 9) (N := some 5) (v := ?_) (a' := ?_) #[true, true, true, true, true, true, true, true, true, true] rfl rfl (by kernel_rfl) (fun _ _ _ h => h) (Or.inl ⟨by rfl, ?_⟩) ?_ ?_
  rotate_left
  · intro w'
    go_simp
    with_reducible rfl
  rotate_left
  · simp only [Act.put, List.setIfInBounds_toArray, List.set_cons_zero, List.set_cons_succ, i64_w, i32_w]
    rfl
  refine done_ (by kernel_rfl) ?_
  refine hK _ _ ?_
  clear hK K hHeld
  have HB3 := Lib.hid hb3'
  have HO3 := Lib.hid (own_weaken ho3 (show W.heap.size ≤ _ from Nat.le_refl _))
  clear hb3 hb3' ho3
  obtain ⟨Af, cf, rfl, hcf, hCf⟩ := h.fst.reads
  have HCF := Lib.hid hCf
  have hc6 := hcell HB3.out 6 _ rfl
  clear hCf
  clear hHeld hcell h
  by_cases h0 : n = 0
  · subst h0
    have hxx : X0 = first := by rw [HXX.out, if_pos rfl]
    have e0 : ((0 : Int) == 0) = true := rfl
    go_wp2_with fail
    have hcl := clone_any w3 Af cf first (Kd.C_below HCF.out HB3.out) hcf (by omega)
    rw [hfl] at hcl
    refine hcl.mono ?_
    clear hcl
    rintro e w5 ⟨v5, rfl, ho5, hb5⟩
    have HB5 := Lib.hid (HB3.out.trans (hb5.mono HB3.out.size))
    have HO5 : Hid (OB w5 W.heap.size v5 X0) := Lib.hid (by rw [hxx]; exact own_weaken ho5 HB3.out.size)
    clear ho5 hb5 HO3 HB3 hc6 e0
    have hd9 := HC9.out _ HB5.out
    have hdp := HPC.out _ HB5.out
    go_wp2_with fail
    go_loopw [34] (fun u wr => ∃ j : Nat, u = .int .i64 j ∧ j ≤ pl.length ∧ Hid (OB wr W.heap.size v5 (comeL (bksOf l03) every o (pl.take j) X0)) ∧ Hid (Below W.heap.size W wr)) (fun u _ => pl.length - (intOf u).toNat)
    case atStart => exact ⟨0, rfl, Nat.zero_le _, HO5, HB5⟩
    case round =>
      clear HO5 HB5 hd9 hdp
      obtain ⟨j, rfl, hj, HO5, HB5⟩ := hrel
      by_cases hlt : j < pl.length
      · obtain ⟨pj, hpj, hpjl⟩ := HMEM.out _ (List.getElem_mem hlt)
        have htk : pl.take (j + 1) = pl.take j ++ [(pj : Int)] := by rw [List.take_succ, List.getElem?_eq_getElem hlt, hpj]; rfl
        have hsn := Lib.hid (comeL_snoc (bksOf l03) every o (pl.take j) (pj : Int) X0)
        have hxl := comeL_length (bs := bksOf l03) (e := every) HOL.out (pl.take j) (x := X0) HX0
        obtain ⟨ad, had, hac⟩ := Kd.at_int (Kd.C_below HCP.out HB5.out) (j : Int) (by omega) (by omega)
        rw [rd_nat, Int.toNat_natCast, show pl.getD j 0 = (pj : Int) by rw [List.getD_eq_getElem?_getD, List.getElem?_eq_getElem hlt, hpj]; rfl] at hac
        subst had
        have hd8 := HC8.out _ HB5.out
        have hdr := HRC.out _ HB5.out pj hpjl
        have p0 : ((0 : Int) ≤ (pj : Int)) = True := eq_true (by omega)
        have p1 : ((pj : Int) < (l03.length : Int)) = True := eq_true (by omega)
        have HTK := Lib.hid htk
        have HPJ := Lib.hid hpj
        clear htk hpj
        rw [Int.toNat_natCast] at hsn
        generalize hX : comeL (bksOf l03) every o (pl.take j) X0 = X at *
        clear hX
        cases hr : rchB (bksOf l03) pj with
        | false =>
          rw [hr] at hdr hsn
          go_wp2_with fail
          go_roundw
          case rel => exact ⟨j + 1, by go_num, by omega, Lib.hid (by rw [HTK.out, hsn.out]; exact HO5.out), HB5⟩
          case measure => simp [intOf]; omega
        | true =>
          rw [hr] at hdr hsn
          have hd10 := HC10.out _ HB5.out
          obtain ⟨Ao, co, _, hoc, hCo⟩ := HOC.out pj hpjl
          have hdo := hoc _ HB5.out
          have HCO := Lib.hid hCo
          clear hoc hCo
          have hyl := HOL.out pj
          go_wp2_with fail
          go_loopw [54] (fun u wr => ∃ t : Nat, u = .int .i64 t ∧ t ≤ N ∧ Hid (OB wr W.heap.size v5 (mergeT every X (o pj) t)) ∧ Hid (Below W.heap.size W wr)) (fun u _ => N - (intOf u).toNat)
          case atStart => exact ⟨0, rfl, Nat.zero_le _, Lib.hid (by rw [mergeT_zero]; exact HO5.out), HB5⟩
          case round =>
            clear HO5 HB5 hd10 hdo hd8 hdr hac
            obtain ⟨t, rfl, ht, HO5, HB5⟩ := hrel
            by_cases hlt2 : t < N
            · obtain ⟨xa, hxa⟩ : ∃ b, X[t]? = some b := ⟨_, List.getElem?_eq_getElem (by omega)⟩
              obtain ⟨ya, hya⟩ : ∃ b, (o pj)[t]? = some b := ⟨_, List.getElem?_eq_getElem (by omega)⟩
              have hml := mergeT_length (e := every) (hxl.trans hyl.symm) t (by omega)
              obtain ⟨ay, hay, hyc⟩ := Kd.at_bool (Kd.C_below HCO.out HB5.out) (t : Int) (by omega) (by omega)
              rw [show rdOf false (o pj) (t : Int) = ya by simp [rdOf, List.getD_eq_getElem?_getD, hya], Int.toNat_natCast] at hyc
              subst hay
              have hown := HO5.out
              unfold OB at hown
              rw [hml, hxl] at hown
              obtain ⟨gn, cn, rfl, _, _⟩ := hown.form (by omega)
              have hnc := hown.cells (g := gn) rfl t (.bool xa) (by simp [encs, mergeT_at (hxl.trans hyl.symm) hxa])
              rw [add_plain] at hnc
              have hnf : wr.frozen? ⟨gn, t, none⟩ = false := by
                obtain ⟨c', hc'⟩ := own_typed hown gn rfl
                simp [World.frozen?, hc']
              have hst := fun b => (hown.stored t (.bool b)).1
              have hgn := own_base hown gn rfl
              have hstep := Lib.hid (mergeT_step (e := every) (hxl.trans hyl.symm) hxa hya)
              have hlow := Lib.hid (fun b => HB5.out.grown (set_grown wr gn t (.bool b)) HB5.out.size (fun k e => by injection e with e; omega))
              have HST := Lib.hid hst
              have r0 : ((0 : Int) ≤ (t : Int)) = True := eq_true (by omega)
              have r1 : ((t : Int) < (N : Int)) = True := eq_true (by omega)
              have hd7 := HC7.out _ HB5.out
              have HXA := Lib.hid hxa
              have HYA := Lib.hid hya
              clear hst hown hxa hya
              have fin : ∀ b, b = mergeB every xa ya → OB (wr.setCell ⟨gn, t, none⟩ (.bool b)) W.heap.size (.slice (some ⟨gn, 0, none⟩) N cn) (mergeT every X (o pj) (t + 1)) := fun b e => by
                rw [← hstep.out, ← e]
                unfold OB
                rw [List.length_set, hml, hxl]
                have := HST.out b
                rwa [show (encs Value.bool (mergeT every X (o pj) t)).set t (.bool b) = encs Value.bool ((mergeT every X (o pj) t).set t b) by simp [encs, List.map_set]] at this
              have FIN := Lib.hid fin
              clear fin
              cases every <;> cases xa
              all_goals
                go_wp2_with fail
                go_roundw
                case rel => exact ⟨t + 1, by go_num, by omega, Lib.hid (FIN.out _ (by simp [mergeB])), Lib.hid (hlow.out _)⟩
                case measure => simp [intOf]; omega
            · obtain rfl : t = N := by omega
              go_wp2_with fail
              go_roundw
              case rel => exact ⟨j + 1, by go_num, by omega, Lib.hid (by rw [HTK.out, hsn.out]; have := HO5.out; rw [← hxl, mergeT_all (hxl.trans hyl.symm)] at this; exact this), HB5⟩
              case measure => simp [intOf]; omega
      · obtain rfl : j = pl.length := by omega
        rw [List.take_length] at HO5
        go_wp2_with fail
        go_ret
        exact ⟨_, rfl, HO5.out, HB5.out⟩
  · have e0 : ((n : Int) == 0) = false := by rw [beq_eq_false_iff_ne]; omega
    have hxx : X0 = List.replicate N every := by rw [HXX.out, if_neg h0]
    have HB5 := HB3
    have HO5 : Hid (OB w3 W.heap.size v3 X0) := Lib.hid (by rw [hxx]; exact HO3.out)
    have hd9 := HC9.out _ HB5.out
    have hdp := HPC.out _ HB5.out
    clear HO3 HB3 hc6
    go_wp2_with fail
    go_loopw [34] (fun u wr => ∃ j : Nat, u = .int .i64 j ∧ j ≤ pl.length ∧ Hid (OB wr W.heap.size v3 (comeL (bksOf l03) every o (pl.take j) X0)) ∧ Hid (Below W.heap.size W wr)) (fun u _ => pl.length - (intOf u).toNat)
    case atStart => exact ⟨0, rfl, Nat.zero_le _, HO5, HB5⟩
    case round =>
      clear HO5 HB5 hd9 hdp
      obtain ⟨j, rfl, hj, HO5, HB5⟩ := hrel
      by_cases hlt : j < pl.length
      · obtain ⟨pj, hpj, hpjl⟩ := HMEM.out _ (List.getElem_mem hlt)
        have htk : pl.take (j + 1) = pl.take j ++ [(pj : Int)] := by rw [List.take_succ, List.getElem?_eq_getElem hlt, hpj]; rfl
        have hsn := Lib.hid (comeL_snoc (bksOf l03) every o (pl.take j) (pj : Int) X0)
        have hxl := comeL_length (bs := bksOf l03) (e := every) HOL.out (pl.take j) (x := X0) HX0
        obtain ⟨ad, had, hac⟩ := Kd.at_int (Kd.C_below HCP.out HB5.out) (j : Int) (by omega) (by omega)
        rw [rd_nat, Int.toNat_natCast, show pl.getD j 0 = (pj : Int) by rw [List.getD_eq_getElem?_getD, List.getElem?_eq_getElem hlt, hpj]; rfl] at hac
        subst had
        have hd8 := HC8.out _ HB5.out
        have hdr := HRC.out _ HB5.out pj hpjl
        have p0 : ((0 : Int) ≤ (pj : Int)) = True := eq_true (by omega)
        have p1 : ((pj : Int) < (l03.length : Int)) = True := eq_true (by omega)
        have HTK := Lib.hid htk
        have HPJ := Lib.hid hpj
        clear htk hpj
        rw [Int.toNat_natCast] at hsn
        generalize hX : comeL (bksOf l03) every o (pl.take j) X0 = X at *
        clear hX
        cases hr : rchB (bksOf l03) pj with
        | false =>
          rw [hr] at hdr hsn
          go_wp2_with fail
          go_roundw
          case rel => exact ⟨j + 1, by go_num, by omega, Lib.hid (by rw [HTK.out, hsn.out]; exact HO5.out), HB5⟩
          case measure => simp [intOf]; omega
        | true =>
          rw [hr] at hdr hsn
          have hd10 := HC10.out _ HB5.out
          obtain ⟨Ao, co, _, hoc, hCo⟩ := HOC.out pj hpjl
          have hdo := hoc _ HB5.out
          have HCO := Lib.hid hCo
          clear hoc hCo
          have hyl := HOL.out pj
          go_wp2_with fail
          go_loopw [54] (fun u wr => ∃ t : Nat, u = .int .i64 t ∧ t ≤ N ∧ Hid (OB wr W.heap.size v3 (mergeT every X (o pj) t)) ∧ Hid (Below W.heap.size W wr)) (fun u _ => N - (intOf u).toNat)
          case atStart => exact ⟨0, rfl, Nat.zero_le _, Lib.hid (by rw [mergeT_zero]; exact HO5.out), HB5⟩
          case round =>
            clear HO5 HB5 hd10 hdo hd8 hdr hac
            obtain ⟨t, rfl, ht, HO5, HB5⟩ := hrel
            by_cases hlt2 : t < N
            · obtain ⟨xa, hxa⟩ : ∃ b, X[t]? = some b := ⟨_, List.getElem?_eq_getElem (by omega)⟩
              obtain ⟨ya, hya⟩ : ∃ b, (o pj)[t]? = some b := ⟨_, List.getElem?_eq_getElem (by omega)⟩
              have hml := mergeT_length (e := every) (hxl.trans hyl.symm) t (by omega)
              obtain ⟨ay, hay, hyc⟩ := Kd.at_bool (Kd.C_below HCO.out HB5.out) (t : Int) (by omega) (by omega)
              rw [show rdOf false (o pj) (t : Int) = ya by simp [rdOf, List.getD_eq_getElem?_getD, hya], Int.toNat_natCast] at hyc
              subst hay
              have hown := HO5.out
              unfold OB at hown
              rw [hml, hxl] at hown
              obtain ⟨gn, cn, rfl, _, _⟩ := hown.form (by omega)
              have hnc := hown.cells (g := gn) rfl t (.bool xa) (by simp [encs, mergeT_at (hxl.trans hyl.symm) hxa])
              rw [add_plain] at hnc
              have hnf : wr.frozen? ⟨gn, t, none⟩ = false := by
                obtain ⟨c', hc'⟩ := own_typed hown gn rfl
                simp [World.frozen?, hc']
              have hst := fun b => (hown.stored t (.bool b)).1
              have hgn := own_base hown gn rfl
              have hstep := Lib.hid (mergeT_step (e := every) (hxl.trans hyl.symm) hxa hya)
              have hlow := Lib.hid (fun b => HB5.out.grown (set_grown wr gn t (.bool b)) HB5.out.size (fun k e => by injection e with e; omega))
              have HST := Lib.hid hst
              have r0 : ((0 : Int) ≤ (t : Int)) = True := eq_true (by omega)
              have r1 : ((t : Int) < (N : Int)) = True := eq_true (by omega)
              have hd7 := HC7.out _ HB5.out
              have HXA := Lib.hid hxa
              have HYA := Lib.hid hya
              clear hst hown hxa hya
              have fin : ∀ b, b = mergeB every xa ya → OB (wr.setCell ⟨gn, t, none⟩ (.bool b)) W.heap.size (.slice (some ⟨gn, 0, none⟩) N cn) (mergeT every X (o pj) (t + 1)) := fun b e => by
                rw [← hstep.out, ← e]
                unfold OB
                rw [List.length_set, hml, hxl]
                have := HST.out b
                rwa [show (encs Value.bool (mergeT every X (o pj) t)).set t (.bool b) = encs Value.bool ((mergeT every X (o pj) t).set t b) by simp [encs, List.map_set]] at this
              have FIN := Lib.hid fin
              clear fin
              cases every <;> cases xa
              all_goals
                go_wp2_with fail
                go_roundw
                case rel => exact ⟨t + 1, by go_num, by omega, Lib.hid (FIN.out _ (by simp [mergeB])), Lib.hid (hlow.out _)⟩
                case measure => simp [intOf]; omega
            · obtain rfl : t = N := by omega
              go_wp2_with fail
              go_roundw
              case rel => exact ⟨j + 1, by go_num, by omega, Lib.hid (by rw [HTK.out, hsn.out]; have := HO5.out; rw [← hxl, mergeT_all (hxl.trans hyl.symm)] at this; exact this), HB5⟩
              case measure => simp [intOf]; omega
      · obtain rfl : j = pl.length := by omega
        rw [List.take_length] at HO5
        go_wp2_with fail
        go_ret
        exact ⟨_, rfl, HO5.out, HB5.out⟩
end Go.Proofs.Ythgnbeeobhfeaaa.T
end
