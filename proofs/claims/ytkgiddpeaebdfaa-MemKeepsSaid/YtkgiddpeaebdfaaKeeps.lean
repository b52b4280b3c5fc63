/- MemKeeps: what was stored is loaded, whatever is done to other words, and to other allocations. The walk of the law. -/
import Derived.Test.YtkgiddpeaebdfaaSmall
import Derived.Test.YtkgiddpeaebdfaaW12
import Derived.LoopTactic
import Derived.Deep.CutRange
import Derived.Deep.CutBlock
namespace Go.Proofs.Ytkgiddpeaebdfaa
open Go.RowKit

/-- In the second allocation the word at i is stored: w. -/
structure Kp (i : Int) (w : Wd) (S : Me) : Prop where
  two : 2 ≤ S.bs.length
  fr : (S.at 2).freed = false
  nn : 0 ≤ i
  lt : i.toNat < (S.at 2).ws.length
  slt : i.toNat < (S.at 2).st.length
  st : (S.at 2).st[i.toNat]? = some true
  ws : (S.at 2).ws[i.toNat]? = some w

section
variable {i : Int} {w : Wd} {S : Me}
theorem Kp.of {S' : Me} (h : Kp i w S) (h2 : 2 ≤ S'.bs.length) (he : S'.at 2 = S.at 2) : Kp i w S' := ⟨h2, he ▸ h.fr, h.nn, he ▸ h.lt, he ▸ h.slt, he ▸ h.st, he ▸ h.ws⟩
theorem at_setAt {S : Me} {a : Int} {b : Bk} (h : a.toNat - 1 ≠ 1) : (S.setAt a b).at 2 = S.at 2 := by
  simp [Me.at, Me.setAt, List.getD_eq_getElem?_getD, List.getElem?_set_ne h]
theorem at_setAt2 {S : Me} {b : Bk} (h : 2 ≤ S.bs.length) : (S.setAt 2 b).at 2 = b := by
  simp [Me.at, Me.setAt, List.getD_eq_getElem?_getD]
  rw [List.getElem?_set_self (by omega)]
  rfl
theorem Kp.block (h : Kp i w S) : S.blockE true 2 = 0 := by simp [Me.blockE, h.fr]; have := h.two; omega
theorem Kp.loadE (h : Kp i w S) : S.loadE true 2 i = 0 := by
  have h1 := h.lt
  have h2 := h.nn
  have hp : S.pieceE true 2 i 1 = 0 := by rw [Me.pieceE, if_neg (by simp [h.block]), if_neg (by omega)]
  rw [Me.loadE, if_neg (by simp [hp]), List.getD_eq_getElem?_getD, h.st]; rfl
theorem Kp.loadW (h : Kp i w S) : S.loadW true 2 i = ⟨w.p, w.a, w.n⟩ := by
  rw [Me.loadW, if_pos h.loadE, List.getD_eq_getElem?_getD, h.ws]; rfl
theorem Kp.isSet (h : Kp i w S) : (S.loadE true 2 i == 0) = true := by rw [h.loadE]; rfl
theorem Kp.alloc (h : Kp i w S) (n : Int) : Kp i w (S.alloc n) := by
  unfold Me.alloc
  split
  · refine h.of (by simp; have := h.two; omega) ?_
    have := h.two
    simp only [Me.at, List.getD_eq_getElem?_getD]
    rw [List.getElem?_append_left (by show (2 : Int).toNat - 1 < S.bs.length; simp; omega)]
  · exact h
theorem Kp.free (h : Kp i w S) (b : Bool) (a n : Int) (ha : a ≠ 2) : Kp i w (S.free b a n) := by
  unfold Me.free
  split
  · rename_i h0
    have hb : S.blockE b a = 0 := by
      unfold Me.freeE at h0
      split at h0
      · rename_i h1; exact absurd h0 h1
      · rename_i h1; simpa using h1
    obtain ⟨_, h1, h2, _⟩ := blockE_zero hb
    refine h.of (by simp; exact h.two) ?_
    have hne : a.toNat - 1 ≠ 1 := by omega
    simp [Me.at, List.getD_eq_getElem?_getD, List.getElem?_set_ne hne]
  · exact h
/-- An allocation's words are others; the word at i is not among those that changed. -/
theorem Kp.change (h : Kp i w S) {a : Int} {ws : List Wd} {st : List Bool} (h1 : 1 ≤ a) (hw : ws.length = (S.at a).ws.length) (hs : st.length = (S.at a).st.length)
    (hk : a = 2 → ws[i.toNat]? = (S.at a).ws[i.toNat]? ∧ st[i.toNat]? = (S.at a).st[i.toNat]?) : Kp i w (S.setAt a ⟨ws, st, false⟩) := by
  by_cases ha : a = 2
  · subst ha
    obtain ⟨k1, k2⟩ := hk rfl
    have e := at_setAt2 (b := ⟨ws, st, false⟩) h.two
    refine ⟨by simpa [Me.setAt] using h.two, by rw [e], h.nn, by rw [e]; show _ < ws.length; rw [hw]; exact h.lt, by rw [e]; show _ < st.length; rw [hs]; exact h.slt, ?_, ?_⟩
    · rw [e]; exact k2.trans h.st
    · rw [e]; exact k1.trans h.ws
  · exact h.of (by simpa [Me.setAt] using h.two) (at_setAt (by omega))
def Safe (i a n k : Int) : Prop := a = 2 → n < 0 ∨ i < n ∨ n + max k 1 ≤ i
theorem splice_out {α : Type} (l m : List α) (o j : Nat) (h : o + m.length ≤ l.length) (hj : j < o ∨ o + m.length ≤ j) : (splice l o m)[j]? = l[j]? := by
  simp only [splice]
  by_cases h1 : j < o
  · rw [List.getElem?_append_left (by simp; omega), List.getElem?_take_of_lt h1]
  · have e : (l.take o).length = o := by simp; omega
    rw [List.getElem?_append_right (by omega), e, List.getElem?_append_right (by omega), List.getElem?_drop]
    congr 1; omega
theorem Kp.store (h : Kp i w S) (_hI : S.Inv) (b : Bool) (a n : Int) (x : Wd) {k : Int} (hs : Safe i a n k) : Kp i w (S.store b a n x) := by
  unfold Me.store
  split
  · rename_i h0
    obtain ⟨hb, g1, g2, g3⟩ := pieceE_zero h0
    obtain ⟨_, h1, h2, h3⟩ := blockE_zero hb
    refine h.change h1 (by simp) (by simp) (fun ha => ?_)
    have := hs ha
    have h4 := h.nn
    have hne : n.toNat ≠ i.toNat := by omega
    exact ⟨List.getElem?_set_ne hne, List.getElem?_set_ne hne⟩
  · exact h
theorem Kp.clear (h : Kp i w S) (hI : S.Inv) (b : Bool) (a n : Int) {k : Int} (hs : Safe i a n k) : Kp i w (S.clear b a n k) := by
  unfold Me.clear
  split
  · rename_i h0
    unfold Me.clearE at h0
    split at h0
    · simp at h0
    · obtain ⟨hb, g1, g2, g3⟩ := pieceE_zero h0
      obtain ⟨_, h1, h2, h3⟩ := blockE_zero hb
      have h5 := Inv.at_same hI a h1 h2
      have e2 : (splice (S.at a).st n.toNat (List.replicate k.toNat false)).length = (S.at a).st.length := splice_length _ _ _ (by simp; omega)
      refine h.change h1 rfl e2 (fun ha => ⟨rfl, ?_⟩)
      have := hs ha
      have h4 := h.nn
      exact splice_out _ _ _ _ (by simp; omega) (by simp; omega)
  · exact h
theorem Kp.copy (h : Kp i w S) (hI : S.Inv) (b : Bool) (a n : Int) (fb : Bool) (fa fn : Int) {k : Int} (hs : Safe i a n k) : Kp i w (S.copy b a n fb fa fn k) := by
  unfold Me.copy
  split
  · rename_i h0
    unfold Me.copyE at h0
    split at h0
    · simp at h0
    · split at h0
      · rename_i h1; exact absurd h0 h1
      · obtain ⟨hb, g1, g2, g3⟩ := pieceE_zero h0
        obtain ⟨_, h1, h2, h3⟩ := blockE_zero hb
        have h5 := Inv.at_same hI a h1 h2
        have hll := loads_length (S := S) (b := fb) (a := fa) (n := fn) k.toNat
        have e1 : (splice (S.at a).ws n.toNat (S.loads fb fa fn k.toNat)).length = (S.at a).ws.length := splice_length _ _ _ (by omega)
        have e2 : (splice (S.at a).st n.toNat (List.replicate k.toNat true)).length = (S.at a).st.length := splice_length _ _ _ (by simp; omega)
        refine h.change h1 e1 e2 (fun ha => ?_)
        have := hs ha
        have h4 := h.nn
        exact ⟨splice_out _ _ _ _ (by omega) (by omega), splice_out _ _ _ _ (by simp; omega) (by simp; omega)⟩
  · exact h
def kpS (n : Int) : Me := ⟨1000, 3 + n, 2, [⟨List.replicate 3 Wd.zero, List.replicate 3 false, false⟩, ⟨List.replicate n.toNat Wd.zero, List.replicate n.toNat false, false⟩]⟩
def kpS1 : Me := ⟨1000, 3, 1, [⟨List.replicate 3 Wd.zero, List.replicate 3 false, false⟩]⟩
theorem kp_1 : (Me.new 1000).alloc 3 = kpS1 := rfl
theorem kp_e1 : (Me.new 1000).allocE 3 = 0 := by decide
theorem kp_w1 : (Me.new 1000).allocW 3 = ⟨true, 1, 0⟩ := by decide
variable {n : Int}
theorem kp_e2 (h1 : 1 ≤ n) (h2 : n ≤ 50) : kpS1.allocE n = 0 := by simp [kpS1, Me.allocE]; omega
theorem kp_2 (h1 : 1 ≤ n) (h2 : n ≤ 50) : kpS1.alloc n = kpS n := by rw [Me.alloc, if_pos (kp_e2 h1 h2)]; simp [kpS1, kpS]
theorem kp_w2 (h1 : 1 ≤ n) (h2 : n ≤ 50) : kpS1.allocW n = ⟨true, 2, 0⟩ := by rw [Me.allocW, if_pos (kp_e2 h1 h2)]; simp [kpS1]
theorem kp_e3 (h1 : 0 ≤ i) (h2 : i < n) : (kpS n).pieceE true 2 i 1 = 0 := by simp [Me.pieceE, Me.blockE, kpS, Me.at]; omega
theorem kp_3 (h1 : 0 ≤ i) (h2 : i < n) (w : Wd) : Kp i w ((kpS n).store true 2 i ⟨w.p, w.a, w.n⟩) := by
  rw [Me.store, if_pos (kp_e3 h1 h2)]
  have e := at_setAt2 (S := kpS n) (b := ⟨((kpS n).at 2).ws.set i.toNat ⟨w.p, w.a, w.n⟩, ((kpS n).at 2).st.set i.toNat true, false⟩) (by simp [kpS])
  have hi : i.toNat < n.toNat := by omega
  refine ⟨by simp [Me.setAt, kpS], by rw [e], h1, ?_, ?_, ?_, ?_⟩ <;> rw [e] <;> simp [kpS, Me.at, hi]
end
theorem store_len2 (n i : Int) (w : Wd) : ((kpS n).store true 2 i w).bs.length = 2 := by rw [store_len]; rfl

theorem inA_below {W w : World} {A : Option Addr} {l : List Ac} (h : InA W A l) (hb : Below W.heap.size W w) : InA w A l := by
  intro h0
  obtain ⟨b, off, hA, hlt, hc⟩ := h h0
  exact ⟨b, off, hA, Nat.lt_of_lt_of_le hlt hb.size, fun i x hx => ⟨(hc i x hx).1, fun j hj => (hb.cell (p := ⟨b, off + i * 8 + j, none⟩) hlt).trans ((hc i x hx).2 j hj)⟩⟩
theorem smallB_len {l : List Ac} (h : smallB l = true) : l.length ≤ 40 := by
  simp only [smallB, Bool.and_eq_true, decide_eq_true_eq] at h
  exact h.1

set_option maxRecDepth 100000 in
set_option maxHeartbeats 2000000 in
theorem memKeeps_out (n at_ : Int) (w : Wd) (l : List Ac) (A : Option Addr) (c : Nat) (W : World) (hm : l.length ≤ maxLen) (hr : InA W A l) (h : smallB l = false ∨ n < 1 ∨ 50 < n ∨ at_ < 0 ∨ n ≤ at_) :
    Calls Try.prog 9 #[.int .i64 n, .int .i64 at_, .agg #[.bool w.p, .int .i64 w.a, .int .i64 w.n], .slice A l.length c] W fun e W' => e = .returned (.bool true) ∧ Below W.heap.size W W' := by
  have C1 := Lib.hid (works_any (W.alloc (.cells #[.bool w.p, .int .i64 w.a, .int .i64 w.n] 23)))
  have H := Lib.hid h
  have HR := Lib.hid hr
  clear h hr
  go_enter Try.func9, Try.ntmps9
  go_wp2_with fail
  refine C1.out.mono ?_
  rintro e w1 ⟨rfl, b1⟩
  have z1 : Below W.heap.size W w1 := stepB (allocB (Below.refl _ _) (Nat.le_refl _) _) (Nat.le_refl _) b1
  have hr1 := Lib.hid (inA_below HR.out z1)
  go_wp2_with fail
  refine (small_any _ l A c hm hr1.out).mono ?_
  rintro e w2 ⟨rfl, b2⟩
  have z2 : Below W.heap.size W w2 := stepB z1 (Nat.le_refl _) b2
  have hsm := H.out
  clear hm hr1 HR H C1 b1 b2 z1
  generalize smallB l = s at *
  cases s
  · go_wp2
    go_ret
    exact ⟨rfl, z2⟩
  · have hb : n < 1 ∨ 50 < n ∨ at_ < 0 ∨ n ≤ at_ := hsm.resolve_left (by simp)
    have H := Lib.hid hb
    clear hb hsm
    go_wp2
    all_goals first
      | (exfalso; have := H.out; omega)
      | (go_ret; exact ⟨rfl, z2⟩)

theorem wf_bounds {n : Int} (h : (Lit.int .i64 n).wf = true) : -9223372036854775808 ≤ n ∧ n ≤ 9223372036854775807 := by
  simp only [Lit.wf, Bool.and_eq_true, decide_eq_true_eq] at h
  have e1 : IntKind.min .i64 = -9223372036854775808 := by decide
  have e2 : IntKind.max .i64 = 9223372036854775807 := by decide
  rw [e1, e2] at h
  exact h

/-- What a round keeps: the memory, and the three boxes. -/
structure Kst (W : World) (B pa qa : Nat) (i : Int) (w : Wd) (wr : World) (S : Me) (F : Nat → Prop) : Prop where
  kp : Kp i w S
  mem : Mem B wr B F S
  bw : Box wr W.heap.size #[.bool w.p, .int .i64 w.a, .int .i64 w.n]
  bp : Box wr pa #[.bool true, .int .i64 2, .int .i64 0]
  bq : Box wr qa #[.bool true, .int .i64 2, .int .i64 i]
  nb : ¬ F W.heap.size
  np : ¬ F pa
  nq : ¬ F qa
  le : W.heap.size ≤ B
  z : Below W.heap.size W wr

section
variable {W : World} {B pa qa : Nat} {i : Int} {w : Wd} {wr w' : World} {S S' : Me} {F F' : Nat → Prop}
theorem Kst.below (h : Kst W B pa qa i w wr S F) (hb : Below wr.heap.size wr w') : Kst W B pa qa i w w' S F :=
  ⟨h.kp, h.mem.below hb, h.bw.below hb, h.bp.below hb, h.bq.below hb, h.nb, h.np, h.nq, h.le, h.z.trans (hb.mono h.z.size)⟩
theorem Kst.alloc (h : Kst W B pa qa i w wr S F) (o : Obj) : Kst W B pa qa i w (wr.alloc o) S F := h.below (below_alloc (Below.refl _ _) o)
theorem Kst.drewN (h : Kst W B pa qa i w wr S F) (n : Nat) : Kst W B pa qa i w (wr.drewN n) S F := h.below (below_drewN (Below.refl _ _) n)
theorem Kst.kept (h : Kst W B pa qa i w wr S F) (m : Mem B w' B F S') (k : Kept F wr w') (kp : Kp i w S') : Kst W B pa qa i w w' S' F :=
  ⟨kp, m, h.bw.kept k h.nb, h.bp.kept k h.np, h.bq.kept k h.nq, h.nb, h.np, h.nq, h.le, keptB (fun k hk => by have := (h.mem.low k hk).1; have := h.le; omega) h.z (Nat.le_refl _) k⟩
theorem Kst.make (h : Kst W B pa qa i w wr S F) (m : Mem B w' B F' S') (q : ∀ k, F' k → F k ∨ wr.heap.size ≤ k) (k : Kept F wr w') (kp : Kp i w S') : Kst W B pa qa i w w' S' F' :=
  ⟨kp, m, h.bw.kept k h.nb, h.bp.kept k h.np, h.bq.kept k h.nq, fun hf => (q _ hf).elim h.nb (fun e => by have := blk_lt h.bw; omega), fun hf => (q _ hf).elim h.np (fun e => by have := blk_lt h.bp; omega), fun hf => (q _ hf).elim h.nq (fun e => by have := blk_lt h.bq; omega), h.le, keptB (fun k hk => by have := (h.mem.low k hk).1; have := h.le; omega) h.z (Nat.le_refl _) k⟩
end

set_option maxRecDepth 100000 in
set_option maxHeartbeats 16000000 in
theorem memKeeps_in (n at_ : Int) (w : Wd) (l : List Ac) (A : Option Addr) (c : Nat) (W : World) (hm : l.length ≤ maxLen) (hr : InA W A l) (hs : smallB l = true) (hl : l.length ≤ 40) (h1 : 1 ≤ n) (h2 : n ≤ 50) (h3 : 0 ≤ at_) (h4 : at_ < n) :
    Calls Try.prog 9 #[.int .i64 n, .int .i64 at_, .agg #[.bool w.p, .int .i64 w.a, .int .i64 w.n], .slice A l.length c] W fun e W' => e = .returned (.bool true) ∧ Below W.heap.size W W' := by
  have HR := Lib.hid hr
  have HM := Lib.hid hm
  have HS := Lib.hid hs
  clear hr hm hs
  go_enter Try.func9, Try.ntmps9
  go_wp2_with fail
  refine (works_any _).mono ?_
  rintro e w1 ⟨rfl, b1⟩
  have z1 : Below W.heap.size W w1 := stepB (by repeat (first | exact Below.refl _ _ | (refine allocB ?_ (Nat.le_refl _) _) | apply Below.drew | (refine drewNB ?_ _))) (Nat.le_refl _) b1
  have bw_1 : Hid (Box w1 W.heap.size #[.bool w.p, .int .i64 w.a, .int .i64 w.n]) := Lib.hid (Box.below (by repeat (first | exact Box.newAt (by simp; done) | exact Box.newAt rfl | apply Box.alloc | apply Box.drew | apply Box.drewN)) b1)
  obtain ⟨lbw, hbw, fbw⟩ := bw_1.out.see
  have cs := small_any w1 l A c HM.out (inA_below HR.out z1)
  rw [HS.out] at cs
  have CS := Lib.hid cs
  clear cs
  go_wp2_with fail
  refine (CS.out).mono ?_
  rintro e w2 ⟨rfl, b2⟩
  have z2 : Below W.heap.size W w2 := stepB (by repeat (first | exact z1 | (refine allocB ?_ (Nat.le_refl _) _) | apply Below.drew | (refine drewNB ?_ _))) (Nat.le_refl _) b2
  have bw_2 : Hid (Box w2 W.heap.size #[.bool w.p, .int .i64 w.a, .int .i64 w.n]) := Lib.hid (Box.below (by repeat (first | exact Box.newAt (by simp; done) | exact bw_1.out | exact Box.newAt rfl | apply Box.alloc | apply Box.drew | apply Box.drewN)) b2)
  clear bw_1 lbw hbw fbw
  obtain ⟨lbw, hbw, fbw⟩ := bw_2.out.see
  clear CS
  go_wp2_with fail
  refine (Mem.new _ 1000).mono ?_
  rintro e w3 ⟨rfl, m3, b3, _⟩
  have ubw := lbw
  have z3 : Below W.heap.size W w3 := stepB (by repeat (first | exact z2 | (refine allocB ?_ (Nat.le_refl _) _) | apply Below.drew | (refine drewNB ?_ _))) (Nat.le_refl _) b3
  have bw_3 : Hid (Box w3 W.heap.size #[.bool w.p, .int .i64 w.a, .int .i64 w.n]) := Lib.hid (Box.below (by repeat (first | exact Box.newAt (by simp; done) | exact bw_2.out | exact Box.newAt rfl | apply Box.alloc | apply Box.drew | apply Box.drewN)) b3)
  clear bw_2 lbw hbw fbw
  obtain ⟨lbw, hbw, fbw⟩ := bw_3.out.see
  have nbw_4 : ¬ (fun k => k = w2.heap.size) W.heap.size := fun h => by have := m3.low _ h; omega
  go_wp2_with fail
  refine (Mem.makeX (by repeat (first | exact m3 | apply Mem.alloc | apply Mem.drew | apply Mem.drewN)) (by decide) true 1 0 0 kpS1 kp_w1 kp_e1 kp_1).mono ?_
  rintro e w4 ⟨rfl, ⟨F4, m4, q4⟩, k4⟩
  have z4 : Below W.heap.size W w4 := keptB (fun k h => by have := (m3.low k h).1; have := z1.size; omega) (by repeat (first | exact z3 | (refine allocB ?_ (Nat.le_refl _) _) | apply Below.drew | (refine drewNB ?_ _))) (Nat.le_refl _) k4
  have bw_4 : Hid (Box w4 W.heap.size #[.bool w.p, .int .i64 w.a, .int .i64 w.n]) := Lib.hid (Box.kept (by repeat (first | exact Box.newAt (by simp; done) | exact bw_3.out | exact Box.newAt rfl | apply Box.alloc | apply Box.drew | apply Box.drewN)) k4 nbw_4)
  have nbw_4x : ¬ F4 W.heap.size := fun h => (q4 _ h).elim nbw_4 (fun q => by first | (have := lbw; (try simp at q); omega) | (simp at q; omega))
  clear bw_3 lbw hbw fbw
  obtain ⟨lbw, hbw, fbw⟩ := bw_4.out.see
  go_wp2_with fail
  refine (Mem.makeX (by repeat (first | exact m4 | apply Mem.alloc | apply Mem.drew | apply Mem.drewN)) (by decide) true 2 0 0 (kpS n) (kp_w2 h1 h2) (kp_e2 h1 h2) (kp_2 h1 h2)).mono ?_
  rintro e w5 ⟨rfl, ⟨F5, m5, q5⟩, k5⟩
  have z5 : Below W.heap.size W w5 := keptB (fun k h => by have := (m4.low k h).1; have := z1.size; omega) (by repeat (first | exact z4 | (refine allocB ?_ (Nat.le_refl _) _) | apply Below.drew | (refine drewNB ?_ _))) (Nat.le_refl _) k5
  have bw_5 : Hid (Box w5 W.heap.size #[.bool w.p, .int .i64 w.a, .int .i64 w.n]) := Lib.hid (Box.kept (by repeat (first | exact Box.newAt (by simp; done) | exact bw_4.out | exact Box.newAt rfl | apply Box.alloc | apply Box.drew | apply Box.drewN)) k5 nbw_4x)
  have nbw_5x : ¬ F5 W.heap.size := fun h => (q5 _ h).elim nbw_4x (fun q => by first | (have := lbw; (try simp at q); omega) | (simp at q; omega))
  clear bw_4 lbw hbw fbw
  obtain ⟨lbw, hbw, fbw⟩ := bw_5.out.see
  have np_6 : ¬ F5 w5.heap.size := fun h => Nat.lt_irrefl _ (m5.low _ h).2
  go_wp2_with fail
  refine (off_yesX _ at_ (by unfold wrap64; omega)).mono ?_
  rintro e w6 ⟨rfl, b6⟩
  have z6 : Below W.heap.size W w6 := stepB (by repeat (first | exact z5 | (refine allocB ?_ (Nat.le_refl _) _) | apply Below.drew | (refine drewNB ?_ _))) (Nat.le_refl _) b6
  have m6 := Mem.below (by repeat (first | exact m5 | apply Mem.alloc | apply Mem.drew | apply Mem.drewN)) b6
  have bw_6 : Hid (Box w6 W.heap.size #[.bool w.p, .int .i64 w.a, .int .i64 w.n]) := Lib.hid (Box.below (by repeat (first | exact Box.newAt (by simp; done) | exact bw_5.out | exact Box.newAt rfl | apply Box.alloc | apply Box.drew | apply Box.drewN)) b6)
  clear bw_5 lbw hbw fbw
  obtain ⟨lbw, hbw, fbw⟩ := bw_6.out.see
  have p_6 : Hid (Box w6 w5.heap.size #[.bool true, .int .i64 2, .int .i64 0]) := Lib.hid (Box.below (by repeat (first | exact Box.newAt (by simp; done) | exact Box.newAt rfl | apply Box.alloc | apply Box.drew | apply Box.drewN)) b6)
  obtain ⟨lp, hp, fp⟩ := p_6.out.see
  have nq_7 : ¬ F5 w6.heap.size := fun h => Nat.lt_irrefl _ (m6.low _ h).2
  go_wp2_with fail
  refine (Mem.storeX (by repeat (first | exact m6 | apply Mem.alloc | apply Mem.drew | apply Mem.drewN)) 0 ((kpS n).store true 2 at_ ⟨w.p, w.a, w.n⟩) rfl (kp_e3 h3 h4)).mono ?_
  rintro e w7 ⟨rfl, m7, k7⟩
  have z7 : Below W.heap.size W w7 := keptB (fun k h => by have := (m6.low k h).1; have := z1.size; omega) (by repeat (first | exact z6 | (refine allocB ?_ (Nat.le_refl _) _) | apply Below.drew | (refine drewNB ?_ _))) (Nat.le_refl _) k7
  have bw_7 : Hid (Box w7 W.heap.size #[.bool w.p, .int .i64 w.a, .int .i64 w.n]) := Lib.hid (Box.kept (by repeat (first | exact Box.newAt (by simp; done) | exact bw_6.out | exact Box.newAt rfl | apply Box.alloc | apply Box.drew | apply Box.drewN)) k7 nbw_5x)
  clear bw_6 lbw hbw fbw
  obtain ⟨lbw, hbw, fbw⟩ := bw_7.out.see
  have p_7 : Hid (Box w7 w5.heap.size #[.bool true, .int .i64 2, .int .i64 0]) := Lib.hid (Box.kept (by repeat (first | exact Box.newAt (by simp; done) | exact p_6.out | exact Box.newAt rfl | apply Box.alloc | apply Box.drew | apply Box.drewN)) k7 np_6)
  clear p_6 lp hp fp
  obtain ⟨lp, hp, fp⟩ := p_7.out.see
  have q_7 : Hid (Box w7 w6.heap.size #[.bool true, .int .i64 2, .int .i64 at_]) := Lib.hid (Box.kept (by repeat (first | exact Box.newAt (by simp; done) | exact Box.newAt rfl | apply Box.alloc | apply Box.drew | apply Box.drewN)) k7 nq_7)
  obtain ⟨lq, hq, fq⟩ := q_7.out.see
  have KP := Lib.hid (kp_3 h3 h4 w)
  have KL := Lib.hid (store_len2 n at_ ⟨w.p, w.a, w.n⟩)
  generalize (kpS n).store true 2 at_ ⟨w.p, w.a, w.n⟩ = S0 at *
  have Zbw := bw_7
  have Zp := p_7
  have Zq := q_7
  clear bw_7 p_7 q_7 lbw hbw fbw lp hp fp lq hq fq
  have zz := z7
  have mm := m7
  obtain ⟨pa, hpa⟩ : ∃ pa, pa = w5.heap.size := ⟨_, rfl⟩
  obtain ⟨qa, hqa⟩ : ∃ qa, qa = w6.heap.size := ⟨_, rfl⟩
  have NB := Lib.hid (show ¬ F5 W.heap.size from nbw_5x)
  have NP := Lib.hid (show ¬ F5 pa from hpa ▸ np_6)
  have NQ := Lib.hid (show ¬ F5 qa from hqa ▸ nq_7)
  go_wp2_with fail
  simp only [← hpa, ← hqa] at *
  have K0 := Lib.hid (show Kst W w2.heap.size pa qa at_ w _ S0 F5 from ⟨KP.out, mm, Zbw.out, Zp.out, Zq.out, NB.out, NP.out, NQ.out, z2.size, zz⟩)
  clear KP Zbw Zp Zq NB NP NQ zz mm
  clear m3 m4 m5 m6 k4 k5 k7 q4 q5 b1 b2 b6 z1 z3 z4 z5 z6
  go_loopw [16] (fun i wr => ∃ (t : Nat) (S : Me) (F : Nat → Prop), t ≤ l.length ∧ i = .int .i64 t ∧ Hid (Kst W w2.heap.size pa qa at_ w wr S F) ∧ S.bs.length ≤ 2 + t) (fun i _ => l.length - (intOf i).toNat)
  case atStart => exact ⟨0, S0, F5, Nat.zero_le _, rfl, K0, by rw [KL.out]; omega⟩
  case round =>
    obtain ⟨t, S, F, ht, rfl, k, hlen⟩ := hrel
    clear KL K0
    by_cases hlt : t < l.length
    · obtain ⟨ab, off, rfl, hab, hcells⟩ := HR.out (by omega)
      obtain ⟨x, hx⟩ : ∃ x, l[t]? = some x := ⟨_, List.getElem?_eq_getElem hlt⟩
      obtain ⟨y0, y1, y2, y3, y4, y5, y6, y7, y8⟩ := act_see hab k.out.z hcells hx
      have hok := (hcells t x hx).1
      have HW := Lib.hid hok
      clear hcells hx hok
      have hti : (0 : Int) ≤ (t : Int) := by omega
      have htl : (t : Int) < (l.length : Int) := by omega
      have hfew : S.bs.length < 1000000000 := by omega
      obtain ⟨lp, hp, fp⟩ := k.out.bp.see
      go_upto_region 17 with fail
      go_cut [118] from 73 to 179 (fun c wx => ∃ d : Bool, c = .bool d ∧ Hid (d = true ↔ (x.p.a = 2 ∧ (x.k.tmod 6 = 1 ∨ (3 ≤ x.k.tmod 6 ∧ x.p.n ≤ at_ ∧ wrap64 (at_ - x.p.n) < max x.n 1)))) ∧ wx = wr.alloc (.cells #[.int .i64 x.k, .int .i64 x.n, .bool x.p.p, .int .i64 x.p.a, .int .i64 x.p.n, .bool x.q.p, .int .i64 x.q.a, .int .i64 x.q.n] 51))
      case first =>
        go_wp2_with fail
        all_goals
          go_meet
          case rel => exact ⟨_, rfl, Lib.hid (by simp [*] <;> (intros; omega)), by simp [*]⟩
      case rest =>
        obtain ⟨d, rfl, hd, rfl⟩ := hcut
        cases d
        · have hbad : ¬ (x.p.a = 2 ∧ (x.k.tmod 6 = 1 ∨ (3 ≤ x.k.tmod 6 ∧ x.p.n ≤ at_ ∧ wrap64 (at_ - x.p.n) < max x.n 1))) := fun q => by have := hd.out.2 q; cases this
          have HFr : Hid (x.k.tmod 6 = 1 → x.p.a ≠ 2) := Lib.hid (fun e q => hbad ⟨q, .inl e⟩)
          have HSf : Hid (3 ≤ x.k.tmod 6 → Safe at_ x.p.a x.p.n x.n) := Lib.hid (fun e q => by
            by_cases hn : x.p.n ≤ at_
            · have hd2 : ¬ wrap64 (at_ - x.p.n) < max x.n 1 := fun q2 => hbad ⟨q, .inr ⟨e, hn, q2⟩⟩
              obtain ⟨_, _, ⟨_, g⟩, _⟩ := HW.out
              have g1 := wf_bounds g
              unfold wrap64 at hd2
              omega
            · omega)
          clear hd hbad lp hp fp
          go_upto_block 2 with fail
          obtain ⟨r, hr⟩ : ∃ r, x.k.tmod 6 = r := ⟨_, rfl⟩
          have hr6 : r < 6 := by have := Int.tmod_lt_of_pos x.k (show (0 : Int) < 6 by decide); omega
          rw [hr] at HFr HSf
          go_cut [] from 73 to 179 (fun wx => ∃ (S' : Me) (F' : Nat → Prop), Hid (Kst W w2.heap.size pa qa at_ w wx S' F') ∧ S'.bs.length ≤ 3 + t)
          case first =>
            by_cases hr0 : r = 0
            · subst hr0
              go_wp2_with fail
              refine (Mem.make ((k.out.alloc _).mem) x.n hfew).mono ?_
              rintro e w21 ⟨rfl, ⟨F21, m21, q21⟩, k21⟩
              have K2 := Lib.hid ((k.out.alloc _).make m21 q21 k21 (k.out.kp.alloc x.n))
              clear m21 q21 k21
              go_wp2
              go_meet
              case rel => exact ⟨_, _, K2, by have := alloc_len S x.n; omega⟩
            by_cases hr1 : r = 1
            · subst hr1
              go_wp2_with fail
              refine (Mem.free ((k.out.alloc _).mem) x.p.p x.p.a x.p.n).mono ?_
              rintro e w21 ⟨rfl, m21, k21⟩
              have K2 := Lib.hid ((k.out.alloc _).kept m21 k21 (k.out.kp.free x.p.p x.p.a x.p.n (HFr.out (by trivial))))
              clear m21 k21
              go_wp2
              go_meet
              case rel => exact ⟨_, _, K2, by rw [free_len]; omega⟩
            by_cases hr3 : r = 3
            · subst hr3
              go_wp2_with fail
              refine (Mem.store ((k.out.alloc _).mem) x.p.p x.p.a x.p.n x.q.p x.q.a x.q.n).mono ?_
              rintro e w21 ⟨rfl, m21, k21⟩
              have K2 := Lib.hid ((k.out.alloc _).kept m21 k21 (k.out.kp.store k.out.mem.inv x.p.p x.p.a x.p.n ⟨x.q.p, x.q.a, x.q.n⟩ (HSf.out (by omega))))
              clear m21 k21
              go_wp2
              go_meet
              case rel => exact ⟨_, _, K2, by rw [store_len]; omega⟩
            by_cases hr4 : r = 4
            · subst hr4
              go_wp2_with fail
              refine (Mem.copy ((k.out.alloc _).mem) x.p.p x.p.a x.p.n x.q.p x.q.a x.q.n x.n).mono ?_
              rintro e w21 ⟨rfl, m21, k21⟩
              have K2 := Lib.hid ((k.out.alloc _).kept m21 k21 (k.out.kp.copy k.out.mem.inv x.p.p x.p.a x.p.n x.q.p x.q.a x.q.n (HSf.out (by omega))))
              clear m21 k21
              go_wp2
              go_meet
              case rel => exact ⟨_, _, K2, by rw [copy_len]; omega⟩
            by_cases hr5 : r = 5
            · subst hr5
              go_wp2_with fail
              refine (Mem.clear ((k.out.alloc _).mem) x.p.p x.p.a x.p.n x.n).mono ?_
              rintro e w21 ⟨rfl, m21, k21⟩
              have K2 := Lib.hid ((k.out.alloc _).kept m21 k21 (k.out.kp.clear k.out.mem.inv x.p.p x.p.a x.p.n (HSf.out (by omega))))
              clear m21 k21
              go_wp2
              go_meet
              case rel => exact ⟨_, _, K2, by rw [clear_len]; omega⟩
            · have K2 := Lib.hid (k.out.alloc (.cells #[.int .i64 x.k, .int .i64 x.n, .bool x.p.p, .int .i64 x.p.a, .int .i64 x.p.n, .bool x.q.p, .int .i64 x.q.a, .int .i64 x.q.n] 51))
              go_wp2
              go_meet
              case rel => exact ⟨_, _, K2, by omega⟩
          case rest =>
            obtain ⟨S2, F2, k2, hlen2⟩ := hcut
            clear k hlen hfew y0 y1 y2 y3 y4 y5 y6 y7 y8 HFr HSf hr hr6
            obtain ⟨lq, hq, fq⟩ := k2.out.bq.see
            go_wp2_with fail
            refine (Mem.loadX k2.out.mem w.p w.a w.n 0 k2.out.kp.loadW k2.out.kp.loadE).mono ?_
            rintro e w22 ⟨rfl, b22⟩
            have k3 := Lib.hid (k2.out.below b22)
            clear k2 b22 lq hq fq
            obtain ⟨lq, hq, fq⟩ := k3.out.bq.see
            obtain ⟨lb, hb, fb⟩ := k3.out.bw.see
            have k4 := Lib.hid (k3.out.alloc (.cells #[.bool w.p, .int .i64 w.a, .int .i64 w.n] 23))
            go_wp2_with fail
            refine (Mem.isSetX k4.out.mem true k4.out.kp.isSet).mono ?_
            rintro e w23 ⟨rfl, b23⟩
            have k5 := Lib.hid (k4.out.below b23)
            clear k3 k4 b23 lq hq fq lb hb fb
            go_wp2
            go_roundw
            case rel => exact ⟨t + 1, S2, F2, by omega, by go_num, k5, by omega⟩
            case measure => simp [intOf]; omega
        · go_wp2
          go_ret
          exact ⟨rfl, (k.out.alloc _).z⟩
    · obtain rfl : t = l.length := by omega
      go_wp2
      go_ret
      exact ⟨rfl, k.out.z⟩

theorem memKeeps_walk (W : World) (n at_ : Int) (w : Wd) (l : List Ac) (A : Option Addr) (c : Nat) (hm : l.length ≤ maxLen) (hr : InA W A l) :
    Calls Try.prog 9 #[.int .i64 n, .int .i64 at_, .agg #[.bool w.p, .int .i64 w.a, .int .i64 w.n], .slice A l.length c] W fun e W' => e = .returned (.bool true) ∧ Below W.heap.size W W' := by
  by_cases h : smallB l = false ∨ n < 1 ∨ 50 < n ∨ at_ < 0 ∨ n ≤ at_
  · exact memKeeps_out n at_ w l A c W hm hr h
  · have hs : smallB l = true := by
      cases e : smallB l
      · exact absurd (.inl e) h
      · rfl
    have h2 : ¬ (n < 1 ∨ 50 < n ∨ at_ < 0 ∨ n ≤ at_) := fun q => h (.inr q)
    exact memKeeps_in n at_ w l A c W hm hr hs (smallB_len hs) (by omega) (by omega) (by omega) (by omega)

end Go.Proofs.Ytkgiddpeaebdfaa
