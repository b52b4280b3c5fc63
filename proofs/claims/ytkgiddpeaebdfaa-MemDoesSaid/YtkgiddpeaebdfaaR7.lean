/- The document's memory: Copy. -/
import Derived.Test.YtkgiddpeaebdfaaR6
import Derived.Test.YtkgiddpeaebdfaaW11
namespace Go.Proofs.Ytkgiddpeaebdfaa
open Go.RowKit

def Rf.loadsE (R : Rf) (b : Bool) (a n : Int) : Nat → Int
  | 0 => 0
  | k + 1 => if R.loadE b a n ≠ 0 then R.loadE b a n else R.loadsE b a (n + 1) k
def Rf.loads (R : Rf) (b : Bool) (a n : Int) (k : Nat) : List Wd := (List.range k).map fun (i : Nat) => R.loadW b a (n + (i : Int))
def Rf.storeN (R : Rf) (a n : Int) (ws : List Wd) : Nat → Rf
  | 0 => R
  | t + 1 => (R.storeN a n ws t).store true a (n + t) (ws.getD t Wd.zero)
def Rf.copyE (R : Rf) (tb : Bool) (ta tn : Int) (fb : Bool) (fa fn : Int) (n : Int) : Int :=
  if n < 0 then 1 else if R.loadsE fb fa fn n.toNat ≠ 0 then R.loadsE fb fa fn n.toNat else if R.check tb ta ≠ 0 then R.check tb ta else if R.has ta tn n = false then 13 else 0
def Rf.copy (R : Rf) (tb : Bool) (ta tn : Int) (fb : Bool) (fa fn : Int) (n : Int) : Rf :=
  if R.copyE tb ta tn fb fa fn n = 0 then R.storeN ta tn (R.loads fb fa fn n.toNat) n.toNat else R

section
variable {R : Rf} {b : Bool} {a n : Int}
theorem rloads_succ (t : Nat) : R.loads b a n (t + 1) = R.loads b a n t ++ [R.loadW b a (n + t)] := by simp [Rf.loads, List.range_succ]
theorem rloads_length (t : Nat) : (R.loads b a n t).length = t := by simp [Rf.loads]
theorem rloadsE_pre (t r : Nat) (h : ∀ i : Nat, i < t → R.loadE b a (n + i) = 0) : R.loadsE b a n (t + r) = R.loadsE b a (n + t) r := by
  induction t generalizing n with
  | zero => simp
  | succ t ih =>
    have h0 := h 0 (by omega)
    have := ih (n := n + 1) (fun i hi => by have := h (i + 1) (by omega); rw [← this]; congr 1; omega)
    rw [show t + 1 + r = (t + r) + 1 by omega, Rf.loadsE, if_neg (by simpa using h0), this]
    congr 1
    omega
theorem rloadsE_bad {t k : Nat} (h : ∀ i : Nat, i < t → R.loadE b a (n + i) = 0) (ht : t < k) (he : R.loadE b a (n + t) ≠ 0) : R.loadsE b a n k = R.loadE b a (n + t) := by
  obtain ⟨r, rfl⟩ : ∃ r, k = t + (r + 1) := ⟨k - t - 1, by omega⟩
  rw [rloadsE_pre t (r + 1) h, Rf.loadsE, if_pos he]
theorem rloadsE_ok {k : Nat} (h : ∀ i : Nat, i < k → R.loadE b a (n + i) = 0) : R.loadsE b a n k = 0 := by
  have := rloadsE_pre k 0 h
  simpa [Rf.loadsE] using this
theorem rloadE_zero (h : R.loadE b a n = 0) : R.check b a = 0 ∧ R.has a n 1 = true := by
  unfold Rf.loadE at h
  split at h
  · rename_i h1; exact absurd h h1
  · split at h
    · simp at h
    · rename_i h1 h2; exact ⟨by simpa using h1, by simpa using h2⟩
theorem rstoreN_bl (ws : List Wd) : ∀ t, (R.storeN a n ws t).bl = R.bl ∧ (R.storeN a n ws t).room = R.room ∧ (R.storeN a n ws t).ce.length ≤ R.ce.length + t
  | 0 => ⟨rfl, rfl, Nat.le_refl _⟩
  | t + 1 => by
    obtain ⟨h1, h2, h3⟩ := rstoreN_bl ws t
    simp only [Rf.storeN, Rf.store]
    split
    · refine ⟨h1, h2, ?_⟩
      have hle : (ckeep (R.storeN a n ws t).ce a (n + t)).length ≤ (R.storeN a n ws t).ce.length := List.length_filter_le _ _
      simp
      omega
    · exact ⟨h1, h2, by omega⟩
end

/-- What a round of Copy's first loop keeps. -/
structure Cq (W wr : World) (R : Rf) (tb : Bool) (ta tn : Int) (fb : Bool) (fa fn : Int) (t : Nat) (lv : Value) : Prop where
  ok : ∀ i : Nat, i < t → R.loadE fb fa (fn + i) = 0
  row : wr.ownsRow (W.heap.size + 2) 23 3 lv t (wcells (R.loads fb fa fn t))
  bto : Box wr W.heap.size #[.bool tb, .int .i64 ta, .int .i64 tn]
  bfr : Box wr (W.heap.size + 1) #[.bool fb, .int .i64 fa, .int .i64 fn]
  old : Below W.heap.size W wr

section
variable {W wr w' : World} {R : Rf} {tb : Bool} {ta tn : Int} {fb : Bool} {fa fn : Int} {t : Nat} {lv : Value}
theorem Cq.below (h : Cq W wr R tb ta tn fb fa fn t lv) (hb : Below wr.heap.size wr w') : Cq W w' R tb ta tn fb fa fn t lv :=
  ⟨h.ok, ow_below h.row hb, h.bto.below hb, h.bfr.below hb, h.old.trans (hb.mono h.old.size)⟩
theorem Cq.push {w1 : World} {v : Value} (h : Cq W wr R tb ta tn fb fa fn t lv) (he : R.loadE fb fa (fn + t) = 0)
    (own : w1.ownsRow (W.heap.size + 2) 23 3 v (t + 1) (wcells (R.loads fb fa fn t) ++ [.bool (R.loadW fb fa (fn + t)).p, .int .i64 (R.loadW fb fa (fn + t)).a, .int .i64 (R.loadW fb fa (fn + t)).n]))
    (grow : wr.grownBy w1 lv.ownBlock) (hw : w' = w1) : Cq W w' R tb ta tn fb fa fn (t + 1) v := by
  subst hw
  have hne : ∀ k, k < W.heap.size + 2 → some k ≠ lv.ownBlock := fun k hk e => by have := (ow_lt h.row k e.symm).1; omega
  refine ⟨?_, ?_, (grow.block _ (blk_lt h.bto) (hne _ (by omega))).trans h.bto, (grow.block _ (blk_lt h.bfr) (hne _ (by omega))).trans h.bfr, ?_⟩
  · intro i hi
    by_cases e : i = t
    · subst e; exact he
    · exact h.ok i (by omega)
  · rw [rloads_succ, wcells_append]
    exact own
  · exact h.old.grown grow (Nat.le_trans (Nat.le_refl _) h.old.size) (fun k hk => by have := (ow_lt h.row k hk).1; omega)
end

set_option maxRecDepth 100000 in
set_option maxHeartbeats 8000000 in
theorem rcopy_loads {B : Nat} {W : World} {g : Nat} {F : Nat → Prop} {R : Rf} {v1 v2 : Value} (h : RefAt B W g F R v1 v2) (tb : Bool) (ta tn : Int) (fb : Bool) (fa fn : Int) (n : Nat) (hn : n ≤ 1000) (hfn : -9223372036854775808 ≤ fn ∧ fn ≤ 9223372036854775807) (hl : R.ce.length + n < 1000000) :
    Calls Try.prog 29 #[.pointer (some ⟨g, 0, none⟩), .agg #[.bool tb, .int .i64 ta, .int .i64 tn], .agg #[.bool fb, .int .i64 fa, .int .i64 fn], .int .i64 n] W fun e W' =>
      e = .returned (.int .i64 (R.copyE tb ta tn fb fa fn n)) ∧ (∃ F', Ref B W' g F' (R.copy tb ta tn fb fa fn n) ∧ ∀ k, F' k → F k ∨ W.heap.size ≤ k) ∧ Kept F W W' := by
  have H := Lib.hid h
  have HL := Lib.hid hl
  have HI := Lib.hid (info_parts Try.info23)
  have hF := Lib.hid (fun k hk => (h.low k hk).2)
  have C0 : Hid (Cq W ((W.alloc (.cells #[.bool tb, .int .i64 ta, .int .i64 tn] 23)).alloc (.cells #[.bool fb, .int .i64 fa, .int .i64 fn] 23)) R tb ta tn fb fa fn 0 (.slice none 0 0)) := Lib.hid
    ⟨fun i hi => absurd hi (Nat.not_lt_zero _), World.ownsRow_nil _ _ _ _, (Box.new W _).alloc _, Box.newAt (by simp), (below_alloc (below_alloc (Below.refl _ W) _) _)⟩
  clear h hl
  go_enter Try.func29, Try.ntmps29
  go_wp2_with fail
  go_loopw [9, 10] (fun lv i wr => ∃ t : Nat, t ≤ n ∧ i = .int .i64 t ∧ Hid (Cq W wr R tb ta tn fb fa fn t lv)) (fun _ i _ => n - (intOf i).toNat)
  case atStart => exact ⟨0, Nat.zero_le _, rfl, C0⟩
  case round =>
    obtain ⟨t, ht, rfl, r⟩ := hrel
    clear C0
    obtain ⟨lA, lc, rfl⟩ := ow_slice r.out.row
    obtain ⟨lp, hp, fp⟩ := r.out.bto.see
    obtain ⟨lq, hq, fq⟩ := r.out.bfr.see
    by_cases hlt : t < n
    · have hti : (t : Int) < (n : Int) := by omega
      have hb : -9223372036854775808 ≤ fn + (t : Int) ∧ fn + (t : Int) ≤ 9223372036854775807 := by
        rcases Nat.eq_zero_or_pos t with e | e
        · subst e; simpa using hfn
        · have q := rloadE_zero (r.out.ok 0 e)
          have q1 := rhas_true q.2
          obtain ⟨_, r3, r4, _⟩ := rcheck_zero q.1
          have r5 := H.out.few.2.2 _ (List.mem_of_getElem? (R.at_get r3 r4))
          omega
      obtain ⟨hb1, hb2⟩ := hb
      have hld := rload_any (H.out.below r.out.old) fb fa (fn + t)
      by_cases he : R.loadE fb fa (fn + t) = 0
      · rw [he] at hld
        have HE := Lib.hid he
        have HLd := Lib.hid hld
        clear hld he
        go_wp2_with fail
        refine HLd.out.mono ?_
        rintro e w2 ⟨rfl, b2⟩
        have R2 := Lib.hid (r.out.below b2)
        clear b2 HLd lp hp fp lq hq fq r
        obtain ⟨lp, hp, fp⟩ := R2.out.bto.see
        obtain ⟨lq, hq, fq⟩ := R2.out.bfr.see
        obtain ⟨i0, hi0, hz0, hz1, hz2⟩ := HI.out
        go_wp2_with (first
          | (at_builtin; refine wpList_append_own_at _ rfl (.tmp 39) (.tmp 41) 29 rfl (W.heap.size + 2) 23 i0 _ 3 24 Try.underlying29 hi0 hz0 hz1 hz2 rfl (by decide) _ t (wcells (R.loads fb fa fn t)) rfl ?_ _ 1 1 [.bool (R.loadW fb fa (fn + t)).p, .int .i64 (R.loadW fb fa (fn + t)).a, .int .i64 (R.loadW fb fa (fn + t)).n] rfl rfl ?_ ?_ ?_ ?_ ?_ ?_
             (exact ow_below R2.out.row (by repeat (first | exact Below.refl _ _ | apply below_alloc | apply below_drew | (refine below_drewN ?_ _))))
             (exact cell_row (by simp) _ _)
             (intro u hu; simp at hu; rcases hu with rfl | rfl | rfl <;> rfl)
             (simp only [maxLen]; omega)
             omega
             (have := lq; simp; omega)
             (intro v4 w4 own4 grow4 nil4 at4
              clear nil4 at4
              have P4 := fun w' hw' => Cq.push (w' := w') (R2.out.below (by repeat (first | exact Below.refl _ _ | apply below_alloc | apply below_drew | (refine below_drewN ?_ _)))) HE.out own4 grow4 hw'
              have P4 := Lib.hid P4
              clear own4 grow4)))
        go_roundw
        case rel => exact ⟨t + 1, by omega, by go_num, Lib.hid (P4.out _ rfl)⟩
        case measure => simp [intOf]; omega
      · have H0 : R.loadsE fb fa fn n = R.loadE fb fa (fn + t) := rloadsE_bad r.out.ok hlt he
        have e1 : R.copyE tb ta tn fb fa fn n = R.loadE fb fa (fn + t) := by
          rw [Rf.copyE, if_neg (by omega)]
          simp only [Int.toNat_natCast, H0]
          rw [if_pos he]
        have e2 : R.copy tb ta tn fb fa fn n = R := by rw [Rf.copy, e1, if_neg he]
        have hx : (R.loadE fb fa (fn + t) == 0) = false := by simpa using he
        have E1 := Lib.hid e1
        have E2 := Lib.hid e2
        clear H0 e1 e2 he
        generalize R.loadE fb fa (fn + t) = x at *
        have HLd := Lib.hid hld
        clear hld
        go_wp2_with fail
        refine HLd.out.mono ?_
        rintro e w2 ⟨rfl, b2⟩
        have R2 := Lib.hid (r.out.below b2)
        clear b2 HLd lp hp fp lq hq fq r
        go_wp2
        go_ret
        rw [E1.out, E2.out]
        exact ⟨rfl, ⟨F, ⟨v1, v2, H.out.below (by repeat (first | exact R2.out.old | apply below_alloc | apply below_drew | (refine below_drewN ?_ _)))⟩, fun _ h => .inl h⟩, Kept.of_below (by repeat (first | exact R2.out.old | apply below_alloc | apply below_drew | (refine below_drewN ?_ _)))⟩
    · obtain rfl : t = n := by omega
      have hE : R.loadsE fb fa fn t = 0 := rloadsE_ok r.out.ok
      have C1 := Lib.hid (rcheck_any (H.out.below r.out.old) tb ta tn)
      go_wp2_with fail
      refine C1.out.mono ?_
      rintro e w3 ⟨rfl, b3⟩
      have R3 := Lib.hid (r.out.below b3)
      clear C1 b3 lp hp fp lq hq fq r
      obtain ⟨lp, hp, fp⟩ := R3.out.bto.see
      by_cases hc : R.check tb ta = 0
      · have C2 := Lib.hid (rhas_any (H.out.below R3.out.old) tb ta tn t hc (by omega) (by omega))
        rw [hc]
        go_wp2_with fail
        refine C2.out.mono ?_
        rintro e w4 ⟨rfl, b4⟩
        have R4 := Lib.hid (R3.out.below b4)
        clear C2 b4 lp hp fp R3
        obtain ⟨lp, hp, fp⟩ := R4.out.bto.see
        cases hh : R.has ta tn t
        · have e1 : R.copyE tb ta tn fb fa fn t = 13 := by
            rw [Rf.copyE, if_neg (by omega)]
            simp only [Int.toNat_natCast, hE]
            rw [if_neg (by simp), if_neg (by simp [hc]), if_pos hh]
          have e2 : R.copy tb ta tn fb fa fn t = R := by rw [Rf.copy, e1, if_neg (by decide)]
          have E1 := Lib.hid e1
          have E2 := Lib.hid e2
          clear e1 e2 hc hh hE
          go_wp2
          go_ret
          rw [E1.out, E2.out]
          exact ⟨rfl, ⟨F, ⟨v1, v2, H.out.below R4.out.old⟩, fun _ h => .inl h⟩, Kept.of_below R4.out.old⟩
        · have e1 : R.copyE tb ta tn fb fa fn t = 0 := by
            rw [Rf.copyE, if_neg (by omega)]
            simp only [Int.toNat_natCast, hE]
            rw [if_neg (by simp), if_neg (by simp [hc]), if_neg (by simp [hh])]
          have e2 : R.copy tb ta tn fb fa fn t = R.storeN ta tn (R.loads fb fa fn t) t := by rw [Rf.copy, if_pos e1]; rfl
          obtain ⟨r0, r1, r2⟩ := rhas_true hh
          obtain ⟨_, r3, r4, _⟩ := rcheck_zero hc
          have r5 := H.out.few.2.2 _ (List.mem_of_getElem? (R.at_get r3 r4))
          have r6 : tn ≤ 1048576 := by omega
          have E1 := Lib.hid e1
          have E2 := Lib.hid e2
          have hwl := rloads_length (R := R) (b := fb) (a := fa) (n := fn) t
          have S0 := Lib.hid (show Ref B w4 g F (R.storeN ta tn (R.loads fb fa fn t) 0) from ⟨v1, v2, H.out.below R4.out.old⟩)
          have S1 := Lib.hid (show ∀ k, F k → F k ∨ W.heap.size < k from fun _ h => .inl h)
          have S2 := Lib.hid (show ∀ k, (Value.slice lA t lc).ownBlock = some k → ¬ F k from fun k hk hf => by have := (ow_lt R4.out.row k hk).1; have := hF.out k hf; omega)
          have S3 := Lib.hid R4.out.bto
          have S4 := Lib.hid R4.out.row
          have S5 := Lib.hid (Kept.of_below (F := F) R4.out.old)
          generalize R.loads fb fa fn t = ws at *
          clear e1 e2 hc hh hE R4 r1 r2 r3 r4 r5 lp hp fp HI
          go_wp2_with fail
          go_loopw [14] (fun i wr => ∃ (j : Nat) (F1 : Nat → Prop), j ≤ t ∧ i = .int .i64 j ∧ Hid (Ref B wr g F1 (R.storeN ta tn ws j)) ∧ Hid (∀ k, F1 k → F k ∨ W.heap.size < k) ∧ Hid (∀ k, (Value.slice lA t lc).ownBlock = some k → ¬ F1 k) ∧ Hid (Box wr W.heap.size #[.bool tb, .int .i64 ta, .int .i64 tn]) ∧ Hid (wr.ownsRow (W.heap.size + 2) 23 3 (.slice lA t lc) t (wcells ws)) ∧ Hid (Kept F W wr)) (fun i _ => t - (intOf i).toNat)
          case atStart => exact ⟨0, F, Nat.zero_le _, rfl, S0, S1, S2, S3, S4, S5⟩
          case round =>
            obtain ⟨j, F1, hj, rfl, s0, s1, s2, s3, s4, s5⟩ := hrel
            clear S0 S1 S2 S3 S4 S5
            obtain ⟨lp, hp, fp⟩ := s3.out.see
            by_cases hlt2 : j < t
            · obtain ⟨u1, u2, hr⟩ : ∃ u1 u2, Hid (RefAt B wr g F1 (R.storeN ta tn ws j) u1 u2) := by
                obtain ⟨u1, u2, h⟩ := s0.out
                exact ⟨u1, u2, Lib.hid h⟩
              obtain ⟨gl, rfl, hgb, hgl, hcells⟩ := ow_at s4.out (by omega)
              obtain ⟨x0, x1, x2⟩ := wcells_at ws j (by omega)
              have y0 := hcells _ _ x0
              have y1 := hcells _ _ x1
              have y2 := hcells _ _ x2
              have hp1 : wr.cell? ⟨W.heap.size, 1, none⟩ = some (.int .i64 ta) := hp 1
              have hp2 : wr.cell? ⟨W.heap.size, 2, none⟩ = some (.int .i64 tn) := hp 2
              have hlt3 : (j : Int) < (t : Int) := by omega
              have hj0 : (0 : Int) ≤ (j : Int) := by omega
              have hst := rstoreN_bl (R := R) (a := ta) (n := tn) ws j
              have HS := Lib.hid (rstore_any (hr.out.below (below_drew (Below.refl _ _))) true ta (tn + j) (ws.getD j Wd.zero) (by have := HL.out; omega))
              generalize hwd : ws.getD j Wd.zero = wd at HS y0 y1 y2
              have HWd := Lib.hid hwd
              clear hwd
              have hNF : ¬ F1 W.heap.size := fun h => (s1.out _ h).elim (fun h => by have := hF.out _ h; omega) (fun h => by omega)
              have hNG : ¬ F1 gl := s2.out gl rfl
              clear hcells x0 x1 x2 hst
              have hwr : IntKind.i64.wrap (tn + (j : Int)) = tn + (j : Int) := by rw [IntKind.wrap_i64]; omega
              go_wp2_with fail
              go_region_held3 (fun w' => w'.cell? ⟨W.heap.size, 1, none⟩ = some (.int .i64 ta) ∧ w'.cell? ⟨W.heap.size, 2, none⟩ = some (.int .i64 tn) ∧ w'.cell? ⟨gl, j * 3, none⟩ = some (.bool wd.p) ∧ w'.cell? ⟨gl, j * 3 + 1, none⟩ = some (.int .i64 wd.a) ∧ w'.cell? ⟨gl, j * 3 + 2, none⟩ = some (.int .i64 wd.n)) (refine ⟨?_, ?_, ?_, ?_, ?_⟩ <;> first | assumption | (go_keep; done))
                ((go_at_call 28
                  refine HS.out.mono ?_
                  rintro e w5 ⟨rfl, ⟨F2, r5, q5⟩, k5⟩
                  have X1 : Hid (Ref B w5 g F2 (R.storeN ta tn ws (j + 1))) := Lib.hid (by show Ref B w5 g F2 ((R.storeN ta tn ws j).store true ta (tn + j) (ws.getD j Wd.zero)); rw [HWd.out]; exact r5)
                  have X2 : Hid (∀ k, F2 k → F k ∨ W.heap.size < k) := Lib.hid (fun k hk => (q5 k hk).elim (s1.out k) (fun h => .inr (by have := lp; simp at h; omega)))
                  have X3 : Hid (∀ k, (Value.slice (some ⟨gl, 0, none⟩) t lc).ownBlock = some k → ¬ F2 k) := Lib.hid (fun k hk hf => (q5 k hf).elim (s2.out k hk) (fun h => by
                    simp [Value.ownBlock] at hk
                    simp at h
                    omega))
                  have X4 := Lib.hid (Box.kept (s3.out.drew) k5 hNF)
                  have X5 : Hid (w5.ownsRow (W.heap.size + 2) 23 3 (.slice (some ⟨gl, 0, none⟩) t lc) t (wcells ws)) := Lib.hid (or_move s4.out (fun k hk => k5.block k (blk_lt (or_lt s4.out k hk).2.choose_spec) (s2.out k hk)))
                  have X6 : Hid (Kept F W w5) := Lib.hid ((s5.out.drew).trans k5 (fun i hi h => (s1.out i h).elim id (fun h => by omega)))
                  have n0 : w5.cell? ⟨gl, j * 3, none⟩ = some (.bool wd.p) := (World.cell?_of_block (k5.block gl hgl hNG)).trans y0
                  have n1 : w5.cell? ⟨gl, j * 3 + 1, none⟩ = some (.int .i64 wd.a) := (World.cell?_of_block (k5.block gl hgl hNG)).trans y1
                  have n2 : w5.cell? ⟨gl, j * 3 + 2, none⟩ = some (.int .i64 wd.n) := (World.cell?_of_block (k5.block gl hgl hNG)).trans y2
                  have n3 : w5.cell? ⟨W.heap.size, 1, none⟩ = some (.int .i64 ta) := blk_cell X4.out 1
                  have n4 : w5.cell? ⟨W.heap.size, 2, none⟩ = some (.int .i64 tn) := blk_cell X4.out 2
                  clear r5 q5 k5))
              go_wp2
              go_roundw
              case rel => exact ⟨j + 1, F2, by omega, by go_num, X1, X2, X3, X4, X5, X6⟩
              case measure => simp [intOf]; omega
            · obtain rfl : j = t := by omega
              go_wp2
              go_ret
              rw [E1.out, E2.out]
              exact ⟨rfl, ⟨F1, s0.out, fun k hk => (s1.out k hk).imp id (fun h => by omega)⟩, s5.out⟩
      · have e1 : R.copyE tb ta tn fb fa fn t = R.check tb ta := by
          rw [Rf.copyE, if_neg (by omega)]
          simp only [Int.toNat_natCast, hE]
          rw [if_neg (by simp), if_pos hc]
        have e2 : R.copy tb ta tn fb fa fn t = R := by rw [Rf.copy, e1, if_neg hc]
        have hx : (R.check tb ta == 0) = false := by simpa using hc
        have E1 := Lib.hid e1
        have E2 := Lib.hid e2
        clear e1 e2 hc hE
        generalize R.check tb ta = x at *
        go_wp2
        go_ret
        rw [E1.out, E2.out]
        exact ⟨rfl, ⟨F, ⟨v1, v2, H.out.below R3.out.old⟩, fun _ h => .inl h⟩, Kept.of_below R3.out.old⟩
end Go.Proofs.Ytkgiddpeaebdfaa
