/- Texts of this claim in one file: H8, H9, H10. -/
import Derived.Test.YthgnbeeobhfeaaaK4
set_option linter.all false
section
/- Walks: the states of a block (the program's). -/
namespace Go.Proofs.Ythgnbeeobhfeaaa.T
open Go.RowKit Go.Shelf Go.Proofs.YthgnbeeobhfeaaaW.PrintWords Go.Proofs.YthgnbeeobhfeaaaW.PrintLast

theorem info26 : (Try.prog.info? 26).map (fun i => (i.zero, i.size, i.bytes)) = some (some (.slice none 0 0), 1, 24) := by kernel_rfl
/-- A row of rows of flags. -/
def N2 (W : World) (B : Nat) (v : Value) (xss : List (List Bool)) : Prop :=
  ∃ vs, W.ownsRow B 26 1 v vs.length vs ∧ vs.length = xss.length ∧ ∀ (i : Nat) (u : Value) (xs : List Bool), vs[i]? = some u → xss[i]? = some xs → OB W B u xs
section
variable {W W1 : World} {B B' : Nat} {v v1 u : Value} {xss : List (List Bool)} {xs : List Bool}
theorem N2.move (h : N2 W B v xss) (hm : ∀ (k t : Nat) (c : Array Value), B ≤ k → (t = 4 ∨ t = 26) → W.heap[k]? = some (.cells c t (0, 0)) → W1.heap[k]? = W.heap[k]?) : N2 W1 B v xss := by
  obtain ⟨vs, h1, h2, h3⟩ := h
  refine ⟨vs, own_move h1 (fun k e => ?_), h2, fun i u xs hu hx => own_move (h3 i u xs hu hx) (fun k e => ?_)⟩
  · obtain ⟨c, hc⟩ := own_typed h1 k e
    exact hm k 26 c (own_base h1 k e) (.inr rfl) hc
  · obtain ⟨c, hc⟩ := own_typed (h3 i u xs hu hx) k e
    exact hm k 4 c (own_base (h3 i u xs hu hx) k e) (.inl rfl) hc
theorem N2.below (h : N2 W B v xss) (hb : Below W.heap.size W W1) : N2 W1 B v xss := h.move (fun k _ _ _ _ hk => hb.block k (Array.getElem?_eq_some_iff.1 hk).1)
theorem N2.weaken (h : N2 W B v xss) (hB : B' ≤ B) : N2 W B' v xss := by
  obtain ⟨vs, h1, h2, h3⟩ := h
  exact ⟨vs, own_weaken h1 hB, h2, fun i u xs hu hx => own_weaken (h3 i u xs hu hx) hB⟩
theorem N2.own (h : N2 W B v xss) : ∃ vs, W.ownsRow B 26 1 v xss.length vs ∧ vs.length = xss.length ∧ ∀ (i : Nat) (u : Value) (xs : List Bool), vs[i]? = some u → xss[i]? = some xs → OB W B u xs := by
  obtain ⟨vs, h1, h2, h3⟩ := h
  exact ⟨vs, by rw [← h2]; exact h1, h2, h3⟩
theorem N2.slice (h : N2 W B v xss) : ∃ A c, v = .slice A xss.length c := by
  obtain ⟨vs, h1, h2, _⟩ := h.own
  exact own_slice h1
theorem N2.one (hB : B ≤ W.heap.size) (h : OB W B u xs) : N2 (W.alloc (.cells #[u] 26)) B (.slice (some ⟨W.heap.size, 0, none⟩) 1 1) [xs] := by
  have ho := World.ownsRow_lit (base := B) (e := 26) (size := 1) W #[u] 1 hB (by simp [maxLen]) rfl
  refine ⟨[u], ho, rfl, fun i u' xs' hu hx => ?_⟩
  match i with
  | 0 =>
    injection hu with hu
    injection hx with hx
    subst hu
    subst hx
    exact pw_own_below h (below_alloc (Below.refl _ _) _)
  | i + 1 => cases hu
/-- A row more (W: ahead of the append's box). -/
theorem N2.more {vs : List Value} (h : W.ownsRow B 26 1 v vs.length vs) (h2 : vs.length = xss.length) (h3 : ∀ (i : Nat) (u : Value) (xs : List Bool), vs[i]? = some u → xss[i]? = some xs → OB W B u xs) (hu : OB W B u xs)
    (hg : W.grownBy W1 v.ownBlock) (ho : W1.ownsRow B 26 1 v1 (vs.length + 1) (vs ++ [u])) : N2 W1 B v1 (xss ++ [xs]) := by
  have mv : ∀ {u' : Value} {xs' : List Bool}, OB W B u' xs' → OB W1 B u' xs' := fun {u' xs'} hq => own_move hq (fun k e => hg.block k (own_lt hq k e) (fun e' => by
    obtain ⟨c, hc⟩ := own_typed hq k e
    obtain ⟨c', hc'⟩ := own_typed h k e'.symm
    rw [hc] at hc'
    injection hc' with hc'
    injection hc' with _ hc'
    cases hc'))
  refine ⟨vs ++ [u], by rw [List.length_append]; exact ho, by simp [h2], fun i u' xs' hi hx => ?_⟩
  rcases Nat.lt_trichotomy i vs.length with hlt | rfl | hgt
  · rw [List.getElem?_append_left hlt] at hi
    rw [List.getElem?_append_left (by omega)] at hx
    exact mv (h3 i u' xs' hi hx)
  · rw [List.getElem?_append_right (Nat.le_refl _), Nat.sub_self] at hi
    rw [List.getElem?_append_right (by omega), h2, Nat.sub_self] at hx
    injection hi with hi
    injection hx with hx
    subst hi
    subst hx
    exact mv hu
  · rw [List.getElem?_eq_none (by simp; omega)] at hi
    cases hi
end

set_option maxRecDepth 100000 in
set_option maxHeartbeats 8000000 in
theorem states_any {w0 W : World} {gf mb N : Nat} {s : ByteArray} {p : Int} {A2 : Option Addr} {n2 c2 : Nat} {A3 : Option Addr} {c3 : Nat} {l03 : List S58} {cs : List S66} {first : List Bool} {every : Bool} {vf vr vp vo : Value} {o : Nat → List Bool}
    (h : FlowAt w0 W gf mb N s p A2 n2 c2 A3 c3 l03 cs first every vf vr vp vo o) (hN : N ≤ 1000) (hfl : first.length = N) (ho : ∀ i, (o i).length = N) (n : Nat) (hn : n < l03.length) (hm : l03.length ≤ 1000) (hC : Kd.C k58 w0 A3 l03.length l03) (hcl : cs.length ≤ 1000) (hins : (rd_T58 l03 n).f0.length ≤ 1000) :
    Calls Try.prog 33 #[.pointer (some ⟨gf, 0, none⟩), .int .i64 n] W fun e W' => ∃ v, e = .returned v ∧ N2 W' W.heap.size v (statesL (chsOf cs) n 0 ((rd_T58 l03 n).f0.length + 1) (intoL (bksOf l03) N first every o n)) ∧ Below W.heap.size W W' := by
  obtain ⟨ad, A0, d0, A16, d16, rfl, hcc, _, _⟩ := bk_at hC n hn
  generalize hins' : (rd_T58 l03 n).f0.length = L at *
  clear hins'
  have hxl : (intoL (bksOf l03) N first every o n).length = N := comeL_length ho _ (by split <;> simp [hfl])
  have hcell : ∀ W' : World, Below W.heap.size W W' → ∀ j v, (#[Value.int .i64 N, .map (some mb), .string s, .int .i64 p, .slice A2 n2 c2, .slice (some ad) l03.length c3, vf, .bool every, vr, vp, vo] : Array Value)[j]? = some v → W'.cell? ⟨gf, j, none⟩ = some v := fun W' hb j v hv => (h.blk.below hb h.blk.lt).cell j v hv
  have hcc' := fun W' (hb : Below W.heap.size W W') => pw_cell_below (below_then h.low h.low.size hb) hcc
  have hinto := into_any h (by omega) hfl ho n hn hm
  have H := Lib.hid h
  have HCL := Lib.hid hcell
  have HCC := Lib.hid hcc'
  have q0 : ((0 : Int) ≤ (n : Int)) = True := eq_true (by omega)
  have q1 : ((n : Int) < (l03.length : Int)) = True := eq_true (by omega)
  clear h hcell hcc hcc' ho hfl hC
  generalize hX : intoL (bksOf l03) N first every o n = X at *
  clear hX
  have hN' := hN
  subst hxl
  go_enter Try.func33, Try.ntmps33
  go_wp2_with fail
  refine hinto.mono ?_
  rintro e w1 ⟨v1, rfl, ho1, hb1⟩
  obtain ⟨A1, d1, rfl, hd1, hC1⟩ := ho1.reads
  have HB1 := Lib.hid hb1
  have HO1 := Lib.hid ho1
  have hcl1 := clone_any w1 A1 d1 X hC1 hd1 (by omega)
  clear hinto ho1 hb1 hC1
  go_wp2_with fail
  refine hcl1.mono ?_
  rintro e w2 ⟨v2, rfl, ho2, hb2⟩
  obtain ⟨A2', d2', rfl⟩ := own_slice ho2
  have HB2 := Lib.hid (HB1.out.trans (hb2.mono HB1.out.size))
  have HO2 := Lib.hid (own_weaken ho2 HB1.out.size)
  have HO1b := Lib.hid (pw_own_below HO1.out hb2)
  have hcb5 : ∀ o, (w2.alloc o).cell? ⟨gf, 5, none⟩ = some (.slice (some ad) l03.length c3) := fun o => HCL.out _ (below_alloc HB2.out _) 5 _ rfl
  have hccb : ∀ o, (w2.alloc o).cell? (ad.add (n * 17)) = some (.slice A0 L d0) := fun o => HCC.out _ (below_alloc HB2.out _)
  clear hcl1 HB1 HO1 ho2 hb2
  go_wp2_with fail
  go_loopw [5, 6, 25] (fun u5 u6 u25 wr => ∃ k : Nat, u25 = .int .i64 k ∧ k ≤ L + 1 ∧ Hid (OB wr W.heap.size u5 (runL (chsOf cs) n 0 k X)) ∧ Hid (N2 wr W.heap.size u6 (statesL (chsOf cs) n 0 k X)) ∧ Hid (Below W.heap.size W wr)) (fun _ _ u25 _ => (L + 1) - (intOf u25).toNat)
  case atStart => exact ⟨0, rfl, Nat.zero_le _, Lib.hid (pw_own_below HO1b.out (below_alloc (Below.refl _ _) _) |> fun h => own_weaken h (Nat.le_refl _)), Lib.hid (N2.one HB2.out.size HO2.out), Lib.hid (below_alloc HB2.out _)⟩
  case round =>
    clear HO1b HB2 HO2 hcb5 hccb
    obtain ⟨k, rfl, hk, HOk, HNk, HBk⟩ := hrel
    have hrlen := runL_length (cs := chsOf cs) (b := (n : Int)) k 0 X
    by_cases hlt : k < L + 1
    · have hlti : (k : Int) < (L : Int) + 1 := by omega
      have hcb0 := HCL.out _ HBk.out 0 _ rfl
      have hcb1 := HCL.out _ HBk.out 1 _ rfl
      have HF := Lib.hid (H.out.below HBk.out)
      have hsn := Lib.hid (runL_snoc (cs := chsOf cs) (b := (n : Int)) k 0 X)
      have hst := Lib.hid (statesL_snoc (cs := chsOf cs) (b := (n : Int)) k 0 X)
      generalize hxk : runL (chsOf cs) n 0 k X = xk at *
      clear hxk
      have hstep := step_any (N := (X.length : Int)) (n : Int) (k : Int) HF.out.tab HF.out.low hcl (by omega) (inW_small (by omega) (by omega)) (inW_small (by omega) (by omega)) HOk.out HBk.out.size
      obtain ⟨Ak, dk, rfl⟩ := own_slice HOk.out
      have HST := Lib.hid hstep
      have hslen : (stepL (chsOf cs) n k xk).length ≤ 1000 := by rw [stepL_length]; omega
      clear hstep hrlen
      go_wp2_with fail
      refine HST.out.mono ?_
      rintro e w3 ⟨v3, rfl, ho3, hb3⟩
      generalize hyk : stepL (chsOf cs) (n : Int) (k : Int) xk = yk at *
      obtain ⟨A3', d3, rfl, hd3, hC3⟩ := OB.reads ho3
      have hc3 := clone_any w3 A3' d3 yk hC3 hd3 (by omega)
      have HC3 := Lib.hid hc3
      have HO3 := Lib.hid ho3
      have HB3 := Lib.hid (HBk.out.trans (hb3.mono HBk.out.size))
      have HN3 := Lib.hid (HNk.out.below hb3)
      clear hc3 ho3 hb3 hC3
      go_wp2_with fail
      refine HC3.out.mono ?_
      rintro e w4 ⟨v4, rfl, ho4, hb4⟩
      have HB4 := Lib.hid (HB3.out.trans (hb4.mono HB3.out.size))
      have HO34 := Lib.hid (pw_own_below HO3.out hb4)
      obtain ⟨vs, hn1, hn2, hn3⟩ := HN3.out.below hb4
      have HO4 := Lib.hid (own_weaken ho4 HB3.out.size)
      obtain ⟨A4, d4, rfl⟩ := own_slice ho4
      have HN1 := Lib.hid hn1
      have HN2 := Lib.hid hn2
      have HN3' := Lib.hid hn3
      have hvl : vs.length ≤ 2000 := by rw [hn2, statesL_length]; omega
      clear ho4 hb4 hn1 hn2 hn3
      go_wp2_with (first | (at_builtin; refine print_append (w0 := W) W.heap.size rfl (.tmp 36) (.tmp 39) 44 26 (.slice none 0 0) 24 rfl Try.underlying44 info26 rfl (by decide) u6 vs (.slice A4 yk.length d4) rfl rfl rfl HN1.out HB4.out HB4.out.size (by omega) ?_; intro v5 w5 ho5 hb5 hg5 _; rw [List.length_append, List.length_singleton] at ho5; have HO5 := Lib.hid ho5; have HB5 := Lib.hid hb5; have HG5 := Lib.hid hg5; clear ho5 hb5 hg5))
      go_roundw
      case rel =>
        have hmv := own_move (w1 := w5) HO34.out (fun q e => HG5.out.block q (own_lt HO34.out q e) (fun e' => by
          obtain ⟨c, hc⟩ := own_typed HO34.out q e
          obtain ⟨c', hc'⟩ := own_typed HN1.out q e'.symm
          rw [hc] at hc'
          injection hc' with hc'
          injection hc' with _ hc'
          cases hc'))
        refine ⟨k + 1, by go_num, by omega, Lib.hid ?_, Lib.hid ?_, HB5⟩
        · rw [hsn.out, Nat.zero_add, hyk]; exact hmv
        · rw [hst.out, hsn.out, Nat.zero_add, hyk]
          exact N2.more HN1.out HN2.out HN3'.out HO4.out HG5.out HO5.out
      case measure => simp [intOf]; omega
    · obtain rfl : k = L + 1 := by omega
      clear hlt hk
      go_wp2_with fail
      go_ret
      exact ⟨_, rfl, HNk.out, HBk.out⟩
end Go.Proofs.Ythgnbeeobhfeaaa.T
end

section
/- Walks: a queue of numbers, each once at a time (the program's). -/
namespace Go.Proofs.Ythgnbeeobhfeaaa.T
open Go.RowKit Go.Shelf Go.Proofs.YthgnbeeobhfeaaaW.PrintWords Go.Proofs.YthgnbeeobhfeaaaW.PrintLast
open Go.Maps (Keyed)

theorem keyed3 : Keyed Try.prog 3 := Go.Maps.int_keyed Try.underlying3
theorem int_key {x : Int} (h : inW x = true) : keyOf Try.prog 3 (.int .i64 x) = some (.int .i64 x) := Go.Maps.keyOf_int_mk Try.underlying3 h
theorem zero4 (w : World) : (zeroValue 4).run Try.prog w = .ok (.bool false) w := by kernel_rfl

/-- A queue (block q: its row vl, its map mb): l waits, each once. ok: where its row may lie. -/
structure QAt (B : Nat) (W : World) (ok : Nat → Prop) (q mb : Nat) (vl : Value) (l : List Int) : Prop where
  blk : BoxIs W q #[vl, .map (some mb)] 105
  row : (Kd.int .i64).Q 3 W B ok vl l
  map : ∃ n f, MapIs Try.prog 3 W mb n f ∧ ∀ x, (f (.int .i64 x)).getD (.bool false) = .bool (decide (x ∈ l))
  nod : l.Nodup
  hBs : B ≤ W.heap.size
  hBq : B ≤ q
  hBm : B ≤ mb
/-- What a queue's work leaves alone. -/
def QKeep (ok : Nat → Prop) (q mb : Nat) (W W' : World) : Prop :=
  ∀ k, k < W.heap.size → k ≠ q → k ≠ mb → (¬ ok k ∨ ∀ c, W.heap[k]? ≠ some (.cells c 3 (0, 0))) → W'.heap[k]? = W.heap[k]?

set_option maxRecDepth 100000 in
set_option maxHeartbeats 4000000 in
theorem put_q {B : Nat} {W : World} {ok : Nat → Prop} {q mb : Nat} {vl : Value} {l : List Int} (h : QAt B W ok q mb vl l) (x : Int) (hx : inW x = true) (hl : l.length ≤ 1000) (hfr : ∀ k, W.heap.size ≤ k → ok k) :
    Calls Try.prog 50 #[.pointer (some ⟨q, 0, none⟩), .int .i64 x] W fun e W' => e = .returned (.tuple #[]) ∧ (∃ v, QAt B W' ok q mb v (if x ∈ l then l else l ++ [x])) ∧ QKeep ok q mb W W' ∧ Below B W W' := by
  obtain ⟨n0, f, hM, hf⟩ := h.map
  have hkey := int_key hx
  have hlk := hM.lookup (t := 103) (e := 4) (z := .bool false) keyed3 Try.underlying103 (zero4 W) hkey
  rw [hf] at hlk
  obtain ⟨A, c, rfl, hlc⟩ := Kd.Q_slice h.row
  have hq0 : ∀ W' : World, Below W.heap.size W W' → W'.cell? ⟨q, 0, none⟩ = some (.slice A l.length c) := fun W' hb => (h.blk.below hb h.blk.lt).cell 0 _ rfl
  have hq1 : ∀ W' : World, Below W.heap.size W W' → W'.cell? ⟨q, 1, none⟩ = some (.map (some mb)) := fun W' hb => (h.blk.below hb h.blk.lt).cell 1 _ rfl
  have hq10 := hq1 W (Below.refl _ _)
  have HQ := Lib.hid h
  have HM := Lib.hid hM
  have HF := Lib.hid hf
  clear h hM hf
  by_cases hin : x ∈ l
  · have hlk' : (Instr.lookup 103 (.map (some mb)) (.int .i64 x) false).run Try.prog W = .ok (.bool true) W := by rw [hlk]; simp [hin]
    clear hlk
    go_enter Try.func50, Try.ntmps50
    go_wp2_with fail
    go_end0
    exact ⟨rfl, ⟨_, HQ.out⟩, fun _ _ _ _ _ => rfl, Below.refl _ _⟩
  · have hlk' : (Instr.lookup 103 (.map (some mb)) (.int .i64 x) false).run Try.prog W = .ok (.bool false) W := by rw [hlk]; simp [hin]
    clear hlk
    go_enter Try.func50, Try.ntmps50
    go_wp2_with fail
    refine start_ (n := 19) (S := fun w' => w'.cell? ⟨q, 0, none⟩ = some (.slice A l.length c) ∧ w'.cell? ⟨q, 1, none⟩ = some (.map (some mb))) (ds := [15, 16, 18]) #[false, false, false, false, false, false, false, false, false, false, false, false, false, false, false, false, false, false, false] (by kernel_rfl) rfl rfl ⟨hq0 _ (below_drew (Below.refl _ _)), hq1 _ (below_drew (Below.refl _ _))⟩ (fun hHeld => ?_)
    refine pure_ (i := 0) (N := some 11) (v := ?_) (a' := ?_) #[true, false, false, false, false, false, false, false, false, false, false, false, false, false, false, false, false, false, false] rfl rfl (by kernel_rfl) (fun _ _ _ h => h) (Or.inl ⟨by rfl, ?_⟩) ?_ ?_
    rotate_left
    · intro w'
      go_simp
      with_reducible rfl
    rotate_left
    · simp only [Act.put, List.setIfInBounds_toArray, List.set_cons_zero, List.set_cons_succ, i64_w, i32_w]
      rfl
    refine pure_ (i := 1) (N := some 12) (v := ?_) (a' := ?_) #[true, true, false, false, false, false, false, false, false, false, false, false, false, false, false, false, false, false, false] rfl rfl (by kernel_rfl) (fun _ _ _ h => h) (Or.inl ⟨by rfl, ?_⟩) ?_ ?_
    rotate_left
    · intro w'
      go_simp
      with_reducible rfl
    rotate_left
    · simp only [Act.put, List.setIfInBounds_toArray, List.set_cons_zero, List.set_cons_succ, i64_w, i32_w]
      rfl
    refine pure_ (i := 2) (N := some 13) (v := ?_) (a' := ?_) #[true, true, true, false, false, false, false, false, false, false, false, false, false, false, false, false, false, false, false] rfl rfl (by kernel_rfl) (fun _ _ _ h => h) (Or.inl ⟨by rfl, ?_⟩) ?_ ?_
    rotate_left
    · intro w'
      go_simp
      with_reducible rfl
    rotate_left
    · simp only [Act.put, List.setIfInBounds_toArray, List.set_cons_zero, List.set_cons_succ, i64_w, i32_w]
      rfl
    refine pure_ (i := 3) (N := some 14) (v := ?_) (a' := ?_) #[true, true, true, true, false, false, false, false, false, false, false, false, false, false, false, false, false, false, false] rfl rfl (by kernel_rfl) (fun _ _ _ h => h) (Or.inl ⟨by rfl, ?_⟩) ?_ ?_
    rotate_left
    · intro w'
      go_simp
      with_reducible rfl
    rotate_left
    · simp only [Act.put, List.setIfInBounds_toArray, List.set_cons_zero, List.set_cons_succ, i64_w, i32_w]
      rfl
    refine pure_ (i := 5) (N := some 16) (v := ?_) (a' := ?_) #[true, true, true, true, false, true, false, false, false, false, false, false, false, false, false, false, false, false, false] rfl rfl (by kernel_rfl) (fun _ _ _ h => h) (Or.inl ⟨by rfl, ?_⟩) ?_ ?_
    rotate_left
    · intro w'
      go_simp
      with_reducible rfl
    rotate_left
    · simp only [Act.put, List.setIfInBounds_toArray, List.set_cons_zero, List.set_cons_succ, i64_w, i32_w]
      rfl
    refine pure_ (i := 6) (N := some 17) (v := ?_) (a' := ?_) #[true, true, true, true, false, true, true, false, false, false, false, false, false, false, false, false, false, false, false] rfl rfl (by kernel_rfl) (fun _ _ _ h => h) (Or.inl ⟨by rfl, ?_⟩) ?_ ?_
    rotate_left
    · intro w'
      go_simp
      with_reducible rfl
    rotate_left
    · simp only [Act.put, List.setIfInBounds_toArray, List.set_cons_zero, List.set_cons_succ, i64_w, i32_w]
      rfl
    refine pure_ (i := 7) (N := some 18) (v := ?_) (a' := ?_) #[true, true, true, true, false, true, true, true, false, false, false, false, false, false, false, false, false, false, false] rfl rfl (by kernel_rfl) (fun _ _ _ h => h) (Or.inl ⟨by rfl, ?_⟩) ?_ ?_
    rotate_left
    · intro w'
      go_simp
      with_reducible rfl
    rotate_left
    · simp only [Act.put, List.setIfInBounds_toArray, List.set_cons_zero, List.set_cons_succ, i64_w, i32_w]
      rfl
    refine pure_ (i := 8) (N := some 19) (v := ?_) (a' := ?_) #[true, true, true, true, false, true, true, true, true, false, false, false, false, false, false, false, false, false, false] rfl rfl (by kernel_rfl) (fun _ _ _ h => h) (Or.inl ⟨by rfl, ?_⟩) ?_ ?_
    rotate_left
    · intro w'
      go_simp
      with_reducible rfl
    rotate_left
    · simp only [Act.put, List.setIfInBounds_toArray, List.set_cons_zero, List.set_cons_succ, i64_w, i32_w]
      rfl
    refine pure_ (i := 10) (N := some 21) (v := ?_) (a' := ?_) #[true, true, true, true, false, true, true, true, true, false, true, false, false, false, false, false, false, false, false] rfl rfl (by kernel_rfl) (fun _ _ _ h => h) (Or.inl ⟨by rfl, ?_⟩) ?_ ?_
    rotate_left
    · intro w'
      go_simp
      with_reducible rfl
    rotate_left
    · simp only [Act.put, List.setIfInBounds_toArray, List.set_cons_zero, List.set_cons_succ, i64_w, i32_w]
      rfl
    refine take_ (i := 4) (N := some 15) (v := ?_) (a' := ?_) #[true, true, true, true, true, true, true, true, true, false, true, false, false, false, false, false, false, false, false] rfl rfl (by kernel_rfl) (fun _ _ _ h => h) (Or.inl ⟨by rfl, ?_⟩) hHeld ?_ ?_
    rotate_left
    · rintro w' ⟨s0, s1⟩
      go_simp
      with_reducible rfl
    rotate_left
    · simp only [Act.put, List.setIfInBounds_toArray, List.set_cons_zero, List.set_cons_succ, i64_w, i32_w]
      rfl
    refine take_ (i := 9) (N := some 20) (v := ?_) (a' := ?_) #[true, true, true, true, true, true, true, true, true, true, true, false, false, false, false, false, false, false, false] rfl rfl (by kernel_rfl) (fun _ _ _ h => h) (Or.inl ⟨by rfl, ?_⟩) hHeld ?_ ?_
    rotate_left
    · rintro w' ⟨s0, s1⟩
      go_simp
      with_reducible rfl
    rotate_left
    · simp only [Act.put, List.setIfInBounds_toArray, List.set_cons_zero, List.set_cons_succ, i64_w, i32_w]
      rfl
    refine one_ (i := 11) (N := some 22) #[true, true, true, true, true, true, true, true, true, true, true, true, false, false, false, false, false, false, false] rfl rfl (by kernel_rfl) (by decide) (fun K hK => ?_)
    refine value_ (w1 := ?_) (v := ?_) (by rfl) rfl ?_ ?_
    rotate_left 2
    · go_simp
      constructor
      · rfl
      · rfl
    refine hK.out _ _ ⟨hq0 _ (below_alloc (below_drew (Below.refl _ _)) _), hq1 _ (below_alloc (below_drew (Below.refl _ _)) _)⟩ (fun hHeld => ?_)
    clear hK K
    refine norm_ (a' := ?_) ?_ ?_
    rotate_left
    · show Act.put _ (some 22) _ = _
      simp only [Act.put, List.setIfInBounds_toArray, List.set_cons_zero, List.set_cons_succ, i64_w, i32_w]
      rfl
    refine one_ (i := 12) (N := some 23) #[true, true, true, true, true, true, true, true, true, true, true, true, true, false, false, false, false, false, false] rfl rfl (by kernel_rfl) (by decide) (fun K hK => ?_)
    refine Kd.Q_append_step (W := W.drew) (w0 := W) (Kd.int .i64) B (by rfl) (.tmp 20) (.tmp 22) 42 3 (.int .i64 0) 8 rfl Try.underlying42 info3 rfl (by decide) (by decide) (.slice A l.length c) l x [.int .i64 x] ok (fun _ => False) rfl rfl rfl (fun _ hk => hk.elim) hfr (Kd.Q_drew HQ.out.row) (below_drew (Below.refl _ _)) HQ.out.hBs (by omega) ?_
    intro v1 w5 ho5 hb5 hg5 hat5
    obtain ⟨A5, c5, hv5, _⟩ := Kd.Q_slice ho5
    rw [List.length_append, List.length_singleton] at hv5
    subst hv5
    have hqne : ∀ k, (Value.slice A l.length c).ownBlock = some k → k ≠ q := fun k e hk => by obtain ⟨cc, hcc⟩ := Kd.Q_typed HQ.out.row k e; have := HQ.out.blk; unfold BoxIs at this; rw [← hk, hcc] at this; injection this with this; injection this with _ this; cases this
    have hmne : ∀ k, (Value.slice A l.length c).ownBlock = some k → mb ≠ k := fun k e => by obtain ⟨cc, hcc⟩ := Kd.Q_typed HQ.out.row k e; exact HM.out.ne_cells hcc
    have hmq : mb ≠ q := HM.out.ne_cells HQ.out.blk
    have hbx5 : BoxIs w5 q #[.slice A l.length c, .map (some mb)] 105 := ((HQ.out.blk.below (below_drew (Below.refl _ _)) HQ.out.blk.lt).grown hg5 (fun e => hqne q e rfl))
    have h5a : w5.cell? ⟨q, 0, none⟩ = some (.slice A l.length c) := hbx5.cell 0 _ rfl
    have h5b : w5.cell? ⟨q, 1, none⟩ = some (.map (some mb)) := hbx5.cell 1 _ rfl
    have hf5 : w5.frozen? ⟨q, 0, none⟩ = false := frozen_box hbx5 0
    have hM6 := ((HM.out.below (below_drew (Below.refl _ _))).grown hg5 (fun e => hmne mb e.symm rfl)).set (p := ⟨q, 0, none⟩) hmq (.slice A5 (l.length + 1) c5)
    obtain ⟨st, w7, hme, hE7, hg7⟩ := hM6.entry (t := 103) (e := 4) (z := .bool false) keyed3 Try.underlying103 (zero4 _) hkey
    rw [HF.out, decide_eq_false hin] at hme
    have hme' : (Instr.mapEntry 103 (.map (some mb)) (.int .i64 x)).run Try.prog (w5.setCell ⟨q, 0, none⟩ (.slice A5 (l.length + 1) c5)) = .ok (.tuple #[.bool false, .int .i64 (st : Int)]) w7 := hme
    obtain ⟨w8, hst, hM8, hg8⟩ := hE7.store (t := 103) (.bool true)
    have hst' : (Instr.entryStore 103 (.map (some mb)) (.int .i64 (st : Int)) (.bool true)).run Try.prog w7 = .ok () w8 := hst
    have HO5 := Lib.hid ho5
    have HG5 := Lib.hid hg5
    have HAT5 := Lib.hid hat5
    have HG7 := Lib.hid hg7
    have HG8 := Lib.hid hg8
    have HM8 := Lib.hid hM8
    have HBX5 := Lib.hid hbx5
    clear ho5 hb5 hg5 hat5 hg7 hg8 hM8 hbx5 hme hst hM6 hE7
    refine hK.out _ _ ⟨h5a, h5b⟩ (fun hHeld => ?_)
    clear hK K
    refine norm_ (a' := ?_) ?_ ?_
    rotate_left
    · show Act.put _ (some 23) _ = _
      simp only [Act.put, List.setIfInBounds_toArray, List.set_cons_zero, List.set_cons_succ, i64_w, i32_w]
      rfl
    refine pure_ (i := 13) (N := some 24) (v := ?_) (a' := ?_) #[true, true, true, true, true, true, true, true, true, true, true, true, true, true, false, false, false, false, false] rfl rfl (by kernel_rfl) (fun _ _ _ h => h) (Or.inl ⟨by rfl, ?_⟩) ?_ ?_
    rotate_left
    · intro w'
      go_simp
      with_reducible rfl
    rotate_left
    · simp only [Act.put, List.setIfInBounds_toArray, List.set_cons_zero, List.set_cons_succ, i64_w, i32_w]
      rfl
    refine pure_ (i := 14) (N := some 25) (v := ?_) (a' := ?_) #[true, true, true, true, true, true, true, true, true, true, true, true, true, true, true, false, false, false, false] rfl rfl (by kernel_rfl) (fun _ _ _ h => h) (Or.inl ⟨by rfl, ?_⟩) ?_ ?_
    rotate_left
    · intro w'
      go_simp
      with_reducible rfl
    rotate_left
    · simp only [Act.put, List.setIfInBounds_toArray, List.set_cons_zero, List.set_cons_succ, i64_w, i32_w]
      rfl
    refine last_ (i := 15) (N := none) #[true, true, true, true, true, true, true, true, true, true, true, true, true, true, true, true, false, false, false] rfl rfl (by kernel_rfl) (by decide) (fun K hK => ?_)
    refine skip_ (w1 := ?_) (by rfl) rfl ?_ ?_
    rotate_left
    · go_simp
      rfl
    refine hK.out _ _ ?_
    clear hK K
    refine last_ (i := 16) (N := some 26) #[true, true, true, true, true, true, true, true, true, true, true, true, true, true, true, true, true, false, false] rfl rfl (by kernel_rfl) (by decide) (fun K hK => ?_)
    refine value_ (w1 := ?_) (v := ?_) (by rfl) rfl ?_ ?_
    rotate_left 2
    · go_simp
      constructor
      · rfl
      · rfl
    refine hK.out _ _ ?_
    clear hK K
    refine norm_ (a' := ?_) ?_ ?_
    rotate_left
    · show Act.put _ (some 26) _ = _
      simp only [Act.put, List.setIfInBounds_toArray, List.set_cons_zero, List.set_cons_succ, i64_w, i32_w]
      rfl
    refine pure_ (i := 17) (N := some 27) (v := ?_) (a' := ?_) #[true, true, true, true, true, true, true, true, true, true, true, true, true, true, true, true, true, true, false] rfl rfl (by kernel_rfl) (fun _ _ _ h => h) (Or.inl ⟨by rfl, ?_⟩) ?_ ?_
    rotate_left
    · intro w'
      go_simp
      with_reducible rfl
    rotate_left
    · simp only [Act.put, List.setIfInBounds_toArray, List.set_cons_zero, List.set_cons_succ, i64_w, i32_w]
      rfl
    refine last_ (i := 18) (N := none) #[true, true, true, true, true, true, true, true, true, true, true, true, true, true, true, true, true, true, true] rfl rfl (by kernel_rfl) (by decide) (fun K hK => ?_)
    refine skip_ (w1 := ?_) (by rfl) rfl ?_ ?_
    rotate_left
    · go_simp
      rfl
    refine hK.out _ _ ?_
    clear hK K
    refine done_ (by kernel_rfl) ?_
    go_wp2_with fail
    go_end0
    have hsq := set_grown w5 q 0 (.slice A5 (l.length + 1) c5)
    have hfar : ∀ k, k < W.heap.size → k ≠ q → k ≠ mb → (Value.slice A l.length c).ownBlock ≠ some k → w8.heap[k]? = W.heap[k]? := fun k hk h1 h2 h3 =>
      (HG8.out.block k (by have := HG5.out.size; have := HG7.out.size; rw [World.size_setCell] at this; simp at *; omega) (fun e => h2 (by injection e))).trans
        ((HG7.out.block k (by have := HG5.out.size; rw [World.size_setCell]; simp at *; omega) (fun e => h2 (by injection e))).trans
          ((hsq.block k (by have := HG5.out.size; simp at *; omega) (fun e => h1 (by injection e))).trans (HG5.out.block k (by simpa using hk) (fun e => h3 e.symm))))
    have hrowq : ∀ k, (Value.slice A5 (l.length + 1) c5).ownBlock = some k → k ≠ q ∧ k ≠ mb := fun k e => by
      rcases HAT5.out with h | ⟨b, h, hle⟩
      · exact ⟨hqne k (h ▸ e), fun e' => hmne k (h ▸ e) e'.symm⟩
      · rw [h] at e
        injection e with e
        have h1 := HQ.out.blk.lt
        have h2 := HM.out.lt
        simp at hle
        omega
    have hQ6 := Kd.Q_mono (Kd.Q_grown1 (Kd.Q_grown1 (Kd.Q_grown1 HO5.out rfl hsq (fun e => (hrowq q e.symm).1 rfl)) rfl HG7.out (fun e => (hrowq mb e.symm).2 rfl)) rfl HG8.out (fun e => (hrowq mb e.symm).2 rfl)) (fun _ hk => hk)
    have hsz : W.heap.size ≤ w8.heap.size := by
      have h1 := HG5.out.size
      have h2 := HG7.out.size
      have h3 := HG8.out.size
      rw [World.size_setCell] at h2
      simp at h1
      omega
    refine ⟨rfl, ⟨.slice A5 (l.length + 1) c5, ?_, hQ6, ⟨_, _, HM8.out, fun y => ?_⟩, ?_, Nat.le_trans HQ.out.hBs hsz, HQ.out.hBq, HQ.out.hBm⟩, fun k hk h1 h2 h3 => hfar k hk h1 h2 (fun e => ?_), ?_⟩
    · have hb6 : BoxIs (w5.setCell ⟨q, 0, none⟩ (.slice A5 (l.length + 1) c5)) q #[.slice A5 (l.length + 1) c5, .map (some mb)] 105 := set_block (j := 0) HBX5.out _
      exact (hb6.grown HG7.out (fun e => hmq (by injection e))).grown HG8.out (fun e => hmq (by injection e))
    · by_cases e : y = x
      · subst e
        rw [setAt_same]
        simp
      · rw [setAt_other _ _ (by simpa using e), HF.out]
        simp [e]
    · rw [List.nodup_append]
      exact ⟨HQ.out.nod, by simp, fun a ha b hb e => hin (by rw [List.mem_singleton] at hb; subst hb; subst e; exact ha)⟩
    · rcases h3 with h3 | h3
      · exact h3 (HQ.out.row.1 k e)
      · obtain ⟨cc, hcc⟩ := Kd.Q_typed HQ.out.row k e
        exact h3 cc hcc
    · refine ⟨HG8.out.os.trans (HG7.out.os.trans (hsq.os.trans HG5.out.os)), HG8.out.tape.trans (HG7.out.tape.trans (hsq.tape.trans HG5.out.tape)), HG8.out.output.trans (HG7.out.output.trans (hsq.output.trans HG5.out.output)), hsz, fun k hk => hfar k (Nat.lt_of_lt_of_le hk HQ.out.hBs) (by have := HQ.out.hBq; omega) (by have := HQ.out.hBm; omega) (fun e => by have := Kd.Q_base HQ.out.row k e; omega)⟩

set_option maxRecDepth 100000 in
set_option maxHeartbeats 4000000 in
theorem take_q {B : Nat} {W : World} {ok : Nat → Prop} {q mb : Nat} {vl : Value} {x : Int} {l : List Int} (h : QAt B W ok q mb vl (x :: l)) (hx : inW x = true) (hl : l.length ≤ 1000) :
    Calls Try.prog 51 #[.pointer (some ⟨q, 0, none⟩)] W fun e W' => e = .returned (.int .i64 x) ∧ (∃ v, QAt B W' ok q mb v l) ∧ QKeep ok q mb W W' ∧ Below B W W' := by
  obtain ⟨n0, f, hM, hf⟩ := h.map
  have hkey := int_key hx
  obtain ⟨A, c, rfl, hlc, hC⟩ := Kd.Q_reads h.row
  obtain ⟨ad, rfl, hxc⟩ := Kd.at_int hC 0 (by omega) (by simp)
  rw [show (0 : Int).toNat = 0 from rfl, show rd (x :: l) 0 = x from rfl] at hxc
  have hxc : W.cell? ad = some (.int .i64 x) := by simpa [Addr.add] using hxc
  have hdr := Kd.Q_drop (k := 1) h.row (by simp)
  obtain ⟨A1, hA1⟩ : ∃ A1, A1 = (if c = 1 then some ad else (some ad).map (·.add (1 * (Kd.int .i64).sz))) := ⟨_, rfl⟩
  rw [← hA1] at hdr
  have hlen : (x :: l).length = l.length + 1 := rfl
  rw [hlen] at hlc hdr
  have hsl : ∀ W' : World, (Instr.slice 42 (.slice (some ad) (l.length + 1) c) (some (.int .i64 1)) none none).run Try.prog W' = .ok (.slice A1 l.length (c - 1)) W' := by
    intro W'
    obtain ⟨i3, hi3, hz3⟩ := Option.map_eq_some_iff.1 info3
    simp only [Prod.mk.injEq] at hz3
    have hel : Try.prog.elem 42 = 3 := by simp [Program.elem, Try.underlying42]
    have hu : Try.prog.underlying 42 = some (.slice (Try.prog.elem 42)) := by rw [hel]; exact Try.underlying42
    have := run_slice_l W' 42 (some ad) (l.length + 1) c hu .i64 1 (by omega) (by omega)
    rw [this, hel]
    have hA : A1 = if c = 1 then some ad else (some ad).map (·.add 1) := hA1
    simp [sizeOf, typeInfo, hi3, hz3.2.1, sliced, Result.andThen, hA]
  have hq0 : ∀ W' : World, Below W.heap.size W W' → W'.cell? ⟨q, 0, none⟩ = some (.slice (some ad) (l.length + 1) c) := fun W' hb => (h.blk.below hb h.blk.lt).cell 0 _ rfl
  have hq1 : ∀ W' : World, Below W.heap.size W W' → W'.cell? ⟨q, 1, none⟩ = some (.map (some mb)) := fun W' hb => (h.blk.below hb h.blk.lt).cell 1 _ rfl
  have hq00 := hq0 W (Below.refl _ _)
  have hqne : ∀ k, (Value.slice A1 l.length (c - 1)).ownBlock = some k → k ≠ q ∧ k ≠ mb := fun k e => by
    obtain ⟨cc, hcc⟩ := Kd.Q_typed hdr k e
    refine ⟨fun hk => ?_, fun hk => hM.ne_cells hcc hk.symm⟩
    have := h.blk
    unfold BoxIs at this
    rw [← hk, hcc] at this
    injection this with this
    injection this with _ this
    cases this
  have hmq : mb ≠ q := hM.ne_cells h.blk
  have hbx4 : BoxIs W.drew q #[.slice (some ad) (l.length + 1) c, .map (some mb)] 105 := h.blk.below (below_drew (Below.refl _ _)) h.blk.lt
  have hf4 : W.drew.frozen? ⟨q, 0, none⟩ = false := frozen_box hbx4 0
  have hM6 := (hM.below (below_drew (Below.refl _ _))).set (p := ⟨q, 0, none⟩) hmq (.slice A1 l.length (c - 1))
  obtain ⟨st, w7, hme, hE7, hg7⟩ := hM6.entry (t := 103) (e := 4) (z := .bool false) keyed3 Try.underlying103 (zero4 _) hkey
  rw [hf, show decide (x ∈ x :: l) = true by simp] at hme
  have hme' : (Instr.mapEntry 103 (.map (some mb)) (.int .i64 x)).run Try.prog (W.setCell ⟨q, 0, none⟩ (.slice A1 l.length (c - 1))).drew = .ok (.tuple #[.bool true, .int .i64 (st : Int)]) w7 := hme
  obtain ⟨w8, hst, hM8, hg8⟩ := hE7.store (t := 103) (.bool false)
  have hst' : (Instr.entryStore 103 (.map (some mb)) (.int .i64 (st : Int)) (.bool false)).run Try.prog w7 = .ok () w8 := hst
  have HQ := Lib.hid h
  have HM := Lib.hid hM
  have HF := Lib.hid hf
  have HD := Lib.hid hdr
  have HG7 := Lib.hid hg7
  have HG8 := Lib.hid hg8
  have HM8 := Lib.hid hM8
  have HBX4 := Lib.hid hbx4
  have p0 : (0 : Int) < (l.length : Int) + 1 := Int.lt_add_one_of_le (Int.natCast_nonneg _)
  clear h hM hf hdr hg7 hg8 hM8 hbx4 hme hst hM6 hE7 hC hA1
  go_enter Try.func51, Try.ntmps51
  go_wp2_with fail
  rename_i K hK
  refine start_ (n := 17) (S := fun w' => w'.cell? ⟨q, 0, none⟩ = some (.slice (some ad) (l.length + 1) c) ∧ w'.cell? ⟨q, 1, none⟩ = some (.map (some mb))) (ds := [13, 14, 16]) #[false, false, false, false, false, false, false, false, false, false, false, false, false, false, false, false, false] (by kernel_rfl) rfl rfl ⟨hq0 _ (below_drew (Below.refl _ _)), hq1 _ (below_drew (Below.refl _ _))⟩ (fun hHeld => ?_)
  refine pure_ (i := 0) (N := some 10) (v := ?_) (a' := ?_) #[true, false, false, false, false, false, false, false, false, false, false, false, false, false, false, false, false] rfl rfl (by kernel_rfl) (fun _ _ _ h => h) (Or.inl ⟨by rfl, ?_⟩) ?_ ?_
  rotate_left
  · intro w'
    go_simp
    with_reducible rfl
  rotate_left
  · simp only [Act.put, List.setIfInBounds_toArray, List.set_cons_zero, List.set_cons_succ, i64_w, i32_w]
    rfl
  refine pure_ (i := 1) (N := some 11) (v := ?_) (a' := ?_) #[true, true, false, false, false, false, false, false, false, false, false, false, false, false, false, false, false] rfl rfl (by kernel_rfl) (fun _ _ _ h => h) (Or.inl ⟨by rfl, ?_⟩) ?_ ?_
  rotate_left
  · intro w'
    go_simp
    with_reducible rfl
  rotate_left
  · simp only [Act.put, List.setIfInBounds_toArray, List.set_cons_zero, List.set_cons_succ, i64_w, i32_w]
    rfl
  refine pure_ (i := 2) (N := some 12) (v := ?_) (a' := ?_) #[true, true, true, false, false, false, false, false, false, false, false, false, false, false, false, false, false] rfl rfl (by kernel_rfl) (fun _ _ _ h => h) (Or.inl ⟨by rfl, ?_⟩) ?_ ?_
  rotate_left
  · intro w'
    go_simp
    with_reducible rfl
  rotate_left
  · simp only [Act.put, List.setIfInBounds_toArray, List.set_cons_zero, List.set_cons_succ, i64_w, i32_w]
    rfl
  refine pure_ (i := 3) (N := some 13) (v := ?_) (a' := ?_) #[true, true, true, true, false, false, false, false, false, false, false, false, false, false, false, false, false] rfl rfl (by kernel_rfl) (fun _ _ _ h => h) (Or.inl ⟨by rfl, ?_⟩) ?_ ?_
  rotate_left
  · intro w'
    go_simp
    with_reducible rfl
  rotate_left
  · simp only [Act.put, List.setIfInBounds_toArray, List.set_cons_zero, List.set_cons_succ, i64_w, i32_w]
    rfl
  refine pure_ (i := 5) (N := some 15) (v := ?_) (a' := ?_) #[true, true, true, true, false, true, false, false, false, false, false, false, false, false, false, false, false] rfl rfl (by kernel_rfl) (fun _ _ _ h => h) (Or.inl ⟨by rfl, ?_⟩) ?_ ?_
  rotate_left
  · intro w'
    go_simp
    with_reducible rfl
  rotate_left
  · simp only [Act.put, List.setIfInBounds_toArray, List.set_cons_zero, List.set_cons_succ, i64_w, i32_w]
    rfl
  refine pure_ (i := 6) (N := some 16) (v := ?_) (a' := ?_) #[true, true, true, true, false, true, true, false, false, false, false, false, false, false, false, false, false] rfl rfl (by kernel_rfl) (fun _ _ _ h => h) (Or.inl ⟨by rfl, ?_⟩) ?_ ?_
  rotate_left
  · intro w'
    go_simp
    with_reducible rfl
  rotate_left
  · simp only [Act.put, List.setIfInBounds_toArray, List.set_cons_zero, List.set_cons_succ, i64_w, i32_w]
    rfl
  refine pure_ (i := 7) (N := some 17) (v := ?_) (a' := ?_) #[true, true, true, true, false, true, true, true, false, false, false, false, false, false, false, false, false] rfl rfl (by kernel_rfl) (fun _ _ _ h => h) (Or.inl ⟨by rfl, ?_⟩) ?_ ?_
  rotate_left
  · intro w'
    go_simp
    with_reducible rfl
  rotate_left
  · simp only [Act.put, List.setIfInBounds_toArray, List.set_cons_zero, List.set_cons_succ, i64_w, i32_w]
    rfl
  refine pure_ (i := 8) (N := some 18) (v := ?_) (a' := ?_) #[true, true, true, true, false, true, true, true, true, false, false, false, false, false, false, false, false] rfl rfl (by kernel_rfl) (fun _ _ _ h => h) (Or.inl ⟨by rfl, ?_⟩) ?_ ?_
  rotate_left
  · intro w'
    go_simp
    with_reducible rfl
  rotate_left
  · simp only [Act.put, List.setIfInBounds_toArray, List.set_cons_zero, List.set_cons_succ, i64_w, i32_w]
    rfl
  refine take_ (i := 4) (N := some 14) (v := ?_) (a' := ?_) #[true, true, true, true, true, true, true, true, true, false, false, false, false, false, false, false, false] rfl rfl (by kernel_rfl) (fun _ _ _ h => h) (Or.inl ⟨by rfl, ?_⟩) hHeld ?_ ?_
  rotate_left
  · rintro w' ⟨s0, s1⟩
    go_simp
    with_reducible rfl
  rotate_left
  · simp only [Act.put, List.setIfInBounds_toArray, List.set_cons_zero, List.set_cons_succ, i64_w, i32_w]
    rfl
  refine take_ (i := 9) (N := some 19) (v := ?_) (a' := ?_) #[true, true, true, true, true, true, true, true, true, true, false, false, false, false, false, false, false] rfl rfl (by kernel_rfl) (fun _ _ _ h => h) (Or.inl ⟨by rfl, ?_⟩) hHeld ?_ ?_
  rotate_left
  · rintro w' ⟨s0, s1⟩
    go_simp
    with_reducible rfl
  rotate_left
  · simp only [Act.put, List.setIfInBounds_toArray, List.set_cons_zero, List.set_cons_succ, i64_w, i32_w]
    rfl
  refine pure_ (i := 10) (N := some 20) (v := ?_) (a' := ?_) #[true, true, true, true, true, true, true, true, true, true, true, false, false, false, false, false, false] rfl rfl (by kernel_rfl) (fun _ _ _ h => h) (Or.inl ⟨by rfl, ?_⟩) ?_ ?_
  rotate_left
  · intro w'
    go_simp
    with_reducible rfl
  rotate_left
  · simp only [Act.put, List.setIfInBounds_toArray, List.set_cons_zero, List.set_cons_succ, i64_w, i32_w]
    rfl
  refine pure_ (i := 11) (N := some 21) (v := ?_) (a' := ?_) #[true, true, true, true, true, true, true, true, true, true, true, true, false, false, false, false, false] rfl rfl (by kernel_rfl) (fun _ _ _ h => h) (Or.inl ⟨by rfl, ?_⟩) ?_ ?_
  rotate_left
  · intro w'
    go_simp
    with_reducible rfl
  rotate_left
  · simp only [Act.put, List.setIfInBounds_toArray, List.set_cons_zero, List.set_cons_succ, i64_w, i32_w]
    rfl
  refine pure_ (i := 12) (N := some 22) (v := ?_) (a' := ?_) #[true, true, true, true, true, true, true, true, true, true, true, true, true, false, false, false, false] rfl rfl (by kernel_rfl) (fun _ _ _ h => h) (Or.inl ⟨by rfl, ?_⟩) ?_ ?_
  rotate_left
  · intro w'
    go_simp
    with_reducible rfl
  rotate_left
  · simp only [Act.put, List.setIfInBounds_toArray, List.set_cons_zero, List.set_cons_succ, i64_w, i32_w]
    rfl
  refine last_ (i := 13) (N := none) #[true, true, true, true, true, true, true, true, true, true, true, true, true, true, false, false, false] rfl rfl (by kernel_rfl) (by decide) (fun K hK => ?_)
  refine skip_ (w1 := ?_) (by rfl) rfl ?_ ?_
  rotate_left
  · go_simp
    rfl
  refine hK.out _ _ ?_
  clear hK K
  refine last_ (i := 14) (N := some 23) #[true, true, true, true, true, true, true, true, true, true, true, true, true, true, true, false, false] rfl rfl (by kernel_rfl) (by decide) (fun K hK => ?_)
  refine value_ (w1 := ?_) (v := ?_) (by rfl) rfl ?_ ?_
  rotate_left 2
  · go_simp
    constructor
    · rfl
    · rfl
  refine hK.out _ _ ?_
  clear hK K
  refine norm_ (a' := ?_) ?_ ?_
  rotate_left
  · show Act.put _ (some 23) _ = _
    simp only [Act.put, List.setIfInBounds_toArray, List.set_cons_zero, List.set_cons_succ, i64_w, i32_w]
    rfl
  refine pure_ (i := 15) (N := some 24) (v := ?_) (a' := ?_) #[true, true, true, true, true, true, true, true, true, true, true, true, true, true, true, true, false] rfl rfl (by kernel_rfl) (fun _ _ _ h => h) (Or.inl ⟨by rfl, ?_⟩) ?_ ?_
  rotate_left
  · intro w'
    go_simp
    with_reducible rfl
  rotate_left
  · simp only [Act.put, List.setIfInBounds_toArray, List.set_cons_zero, List.set_cons_succ, i64_w, i32_w]
    rfl
  refine last_ (i := 16) (N := none) #[true, true, true, true, true, true, true, true, true, true, true, true, true, true, true, true, true] rfl rfl (by kernel_rfl) (by decide) (fun K hK => ?_)
  refine skip_ (w1 := ?_) (by rfl) rfl ?_ ?_
  rotate_left
  · go_simp
    rfl
  refine hK.out _ _ ?_
  clear hK K
  refine done_ (by kernel_rfl) ?_
  refine hK _ _ ?_
  clear hK K
  go_wp2_with fail
  go_ret
  have hsq := set_grown W.drew q 0 (.slice A1 l.length (c - 1))
  have hsz : W.heap.size ≤ w8.heap.size := by
    have h2 := HG7.out.size
    have h3 := HG8.out.size
    rw [World.size_setCell] at h2
    simp at h2
    omega
  have hfar : ∀ k, k < W.heap.size → k ≠ q → k ≠ mb → w8.heap[k]? = W.heap[k]? := fun k hk h1 h2 =>
    (HG8.out.block k (by have := HG7.out.size; rw [World.size_setCell] at this; simp at *; omega) (fun e => h2 (by injection e))).trans
      ((HG7.out.block k (by rw [World.size_setCell]; simpa using hk) (fun e => h2 (by injection e))).trans (hsq.block k (by simpa using hk) (fun e => h1 (by injection e))))
  have hQ8 := Kd.Q_grown1 (Kd.Q_grown1 (Kd.Q_grown1 (Kd.Q_drew HD.out) rfl hsq (fun e => (hqne q e.symm).1 rfl)) rfl HG7.out (fun e => (hqne mb e.symm).2 rfl)) rfl HG8.out (fun e => (hqne mb e.symm).2 rfl)
  have hnd := List.nodup_cons.1 HQ.out.nod
  refine ⟨rfl, ⟨.slice A1 l.length (c - 1), ?_, hQ8, ⟨_, _, HM8.out, fun y => ?_⟩, hnd.2, Nat.le_trans HQ.out.hBs hsz, HQ.out.hBq, HQ.out.hBm⟩, fun k hk h1 h2 _ => hfar k hk h1 h2, ?_⟩
  · have hb6 : BoxIs (W.drew.setCell ⟨q, 0, none⟩ (.slice A1 l.length (c - 1))) q #[.slice A1 l.length (c - 1), .map (some mb)] 105 := set_block (j := 0) HBX4.out _
    exact (hb6.grown HG7.out (fun e => hmq (by injection e))).grown HG8.out (fun e => hmq (by injection e))
  · by_cases e : y = x
    · subst e
      rw [setAt_same]
      simp [hnd.1]
    · rw [setAt_other _ _ (by simpa using e), HF.out]
      simp [e]
  · exact ⟨HG8.out.os.trans (HG7.out.os.trans hsq.os), HG8.out.tape.trans (HG7.out.tape.trans hsq.tape), HG8.out.output.trans (HG7.out.output.trans hsq.output), hsz, fun k hk => hfar k (Nat.lt_of_lt_of_le hk HQ.out.hBs) (by have := HQ.out.hBq; omega) (by have := HQ.out.hBm; omega)⟩
end Go.Proofs.Ythgnbeeobhfeaaa.T
end

section
/- Walks: looking at blocks till nothing changes (the program's). -/
namespace Go.Proofs.Ythgnbeeobhfeaaa.T
open Go.RowKit Go.Shelf Go.Proofs.YthgnbeeobhfeaaaW.PrintWords Go.Proofs.YthgnbeeobhfeaaaW.PrintLast
attribute [local go_sem] Oper.semAt_some

/-! ### Plainly -/
def putQ (l : List Int) (x : Int) : List Int := if x ∈ l then l else l ++ [x]
def putAll (l : List Int) (ys : List Int) : List Int := ys.foldl putQ l
def upd {X : Type} (o : Nat → X) (n : Nat) (x : X) : Nat → X := fun i => if i = n then x else o i
theorem putQ_mem {l : List Int} {x y : Int} : y ∈ putQ l x ↔ y ∈ l ∨ y = x := by
  unfold putQ
  split
  · constructor
    · exact .inl
    · rintro (h | rfl) <;> assumption
  · simp
theorem putAll_mem {ys : List Int} : ∀ {l : List Int} {y : Int}, y ∈ putAll l ys ↔ y ∈ l ∨ y ∈ ys := by
  induction ys with
  | nil => intro l y; simp [putAll]
  | cons x ys ih =>
    intro l y
    show y ∈ putAll (putQ l x) ys ↔ _
    rw [ih, putQ_mem]
    simp [or_assoc]
theorem nodup_range : ∀ (m : Nat) (l : List Nat), l.Nodup → (∀ x ∈ l, x < m) → l.length ≤ m
  | 0, l, _, h => by
    cases l with
    | nil => simp
    | cons x l => exact absurd (h x List.mem_cons_self) (by omega)
  | m + 1, l, hn, h => by
    by_cases hm : m ∈ l
    · have h1 := nodup_range m (l.erase m) (hn.erase m) (fun x hx => by
        have h2 := (List.Nodup.mem_erase_iff hn).1 hx
        have h3 := h x h2.2
        have h4 := h2.1
        omega)
      rw [List.length_erase_of_mem hm] at h1
      omega
    · have := nodup_range m l hn (fun x hx => by
        have h3 := h x hx
        have h4 : x ≠ m := fun e => hm (e ▸ hx)
        omega)
      omega
/-- Numbers below m, none twice, are no more than m. -/
theorem nodup_few {l : List Int} {m : Nat} (h : l.Nodup) (hm : ∀ x ∈ l, 0 ≤ x ∧ x < (m : Int)) : l.length ≤ m := by
  have h1 : (l.map Int.toNat).Nodup := by
    rw [List.nodup_iff_pairwise_ne, List.pairwise_map]
    refine (List.nodup_iff_pairwise_ne.1 h).imp_of_mem (fun {a b} ha hb hne e => hne ?_)
    have := hm a ha
    have := hm b hb
    omega
  have := nodup_range m _ h1 (fun x hx => by
    obtain ⟨y, hy, rfl⟩ := List.mem_map.1 hx
    have := hm y hy
    omega)
  simpa using this

/-- The row of what each block has, and what looks at it: whatever it is. -/
structure Settle (X : Type) (m B0 b1 go fs fl nf : Nat) (tt : TypeId) (c1 c2 : Value) (St : (Nat → X) → World → Prop) (P : World → Value → X → Prop) (g : (Nat → X) → Nat → X) (nx : Nat → List Int) (eqv : X → X → Bool) : Prop where
  below : ∀ o W W', St o W → Below W.heap.size W W' → St o W'
  queue : ∀ o W W', St o W → Below B0 W W' → (∀ k, k < W.heap.size → (∃ c t, W.heap[k]? = some (.cells c t (0, 0)) ∧ t ≠ 3 ∧ t ≠ 105) → W'.heap[k]? = W.heap[k]?) → St o W'
  get : ∀ o W n, St o W → n < m → ∃ u, W.cell? ⟨go, n, none⟩ = some u ∧ P W u (o n)
  blk : ∀ o W, St o W → 0 < m → ∃ c, W.heap[go]? = some (.cells c tt (0, 0))
  put : ∀ o W n u x, St o W → n < m → P W u x → St (upd o n x) (W.setCell ⟨go, n, none⟩ u)
  pb : ∀ W W' u x, P W u x → Below W.heap.size W W' → P W' u x
  sl : ∀ W u x, P W u x → ∃ A k c, u = .slice A k c
  same : ∀ W u x u' y, P W u x → P W u' y → Calls Try.prog fs #[u, u'] W fun e W' => e = .returned (.bool (eqv x y)) ∧ Below W.heap.size W W'
  look : ∀ o W n, St o W → n < m → Calls Try.prog fl #[.int .i64 n, c1, c2] W fun e W' => ∃ u lb gb ga, e = .returned (.tuple #[u, .func (.func nf) #[] lb]) ∧ P W' u (g o n) ∧ Below W.heap.size W W' ∧ W.heap.size ≤ gb ∧ W.heap.size ≤ ga ∧ gb < W'.heap.size ∧ ga < W'.heap.size ∧
    ∀ W2, Kp3 b1 gb ga W' W2 → SeqStopsK Fence.wide 8 Try.prog nf lb (fun x : { x : Int // x ∈ nx n } => #[Value.int .i64 x.1]) (Kp3 b1 gb ga) (fun ys => ys.map (·.1) = nx n) (fun pre => pre.map (·.1) <+: nx n) 1000000 W2

/-- A queue's work leaves what is of other types alone. -/
theorem QKeep.typed {ok : Nat → Prop} {B q mb : Nat} {W W' : World} {vl : Value} {l : List Int} (hk : QKeep ok q mb W W') (h : QAt B W ok q mb vl l) (k : Nat) (hlt : k < W.heap.size) (ht : ∃ c t, W.heap[k]? = some (.cells c t (0, 0)) ∧ t ≠ 3 ∧ t ≠ 105) : W'.heap[k]? = W.heap[k]? := by
  obtain ⟨c, t, hc, h3, h5⟩ := ht
  obtain ⟨n0, f, hM, _⟩ := h.map
  refine hk k hlt (fun e => ?_) (fun e => hM.ne_cells hc e.symm) (.inr (fun c' hc' => ?_))
  · have := h.blk
    unfold BoxIs at this
    rw [← e, hc] at this
    injection this with this
    injection this with _ this
    exact h5 this
  · rw [hc] at hc'
    injection hc' with this
    injection this with _ this
    exact h3 this
theorem QAt.below {B : Nat} {W W' : World} {ok : Nat → Prop} {q mb : Nat} {vl : Value} {l : List Int} (h : QAt B W ok q mb vl l) (hb : Below W.heap.size W W') : QAt B W' ok q mb vl l := by
  obtain ⟨n0, f, hM, hf⟩ := h.map
  exact ⟨h.blk.below hb h.blk.lt, Kd.Q_below h.row hb, ⟨n0, f, hM.below hb, hf⟩, h.nod, Nat.le_trans h.hBs hb.size, h.hBq, h.hBm⟩
/-- .. and marks. -/
theorem QKeep.marks {ok : Nat → Prop} {B q mb lo hi : Nat} {W W' : World} {vl : Value} {l : List Int} {ds : List Deferred} (hk : QKeep ok q mb W W') (h : QAt B W ok q mb vl l) (hM : Marks lo hi W ds) : Marks lo hi W' ds := by
  obtain ⟨Ds, e, hn, hd⟩ := hM
  obtain ⟨n0, f, ⟨es, cl, hm, _⟩, _⟩ := h.map
  have hq := h.blk
  unfold BoxIs at hq
  refine ⟨Ds, e, hn, fun D hD => ⟨(hd D hD).1, (hd D hD).2.1, (hk D (Array.getElem?_eq_some_iff.1 (hd D hD).2.2).1 (fun e => ?_) (fun e => ?_) (.inr (fun c hc => ?_))).trans (hd D hD).2.2⟩⟩
  · rw [← e, (hd D hD).2.2] at hq; cases hq
  · rw [← e, (hd D hD).2.2] at hm; cases hm
  · rw [(hd D hD).2.2] at hc; cases hc
/-- What a world of the walk holds. -/
structure ZS (w W : World) (ok : Nat → Prop) (l : List Int) : Prop where
  box : BoxIs W (w.heap.size + 2) #[.pointer (some ⟨w.heap.size + 1, 0, none⟩)] 102
  que : ∃ vl, QAt w.heap.size W ok (w.heap.size + 1) w.heap.size vl l
theorem ZS.start (w : World) : ZS w (((w.alloc (.map #[] 0)).alloc (.cells #[.slice none 0 0, .map (some w.heap.size)] 105)).alloc (.cells #[.pointer (some ⟨w.heap.size + 1, 0, none⟩)] 102)) (fun _ => True) [] := by
  have m1 := MapIs.made Try.prog 3 w
  have b2 := heap_alloc_new (w.alloc (.map #[] 0)) (.cells #[.slice none 0 0, .map (some w.heap.size)] 105)
  rw [World.size_alloc] at b2
  have b3 := heap_alloc_new ((w.alloc (.map #[] 0)).alloc (.cells #[.slice none 0 0, .map (some w.heap.size)] 105)) (.cells #[.pointer (some ⟨w.heap.size + 1, 0, none⟩)] 102)
  rw [World.size_alloc, World.size_alloc] at b3
  have b2' : BoxIs ((w.alloc (.map #[] 0)).alloc (.cells #[.slice none 0 0, .map (some w.heap.size)] 105)) (w.heap.size + 1) #[.slice none 0 0, .map (some w.heap.size)] 105 := b2
  refine ⟨b3, .slice none 0 0, b2'.below (below_alloc (Below.refl _ _) _) b2'.lt, Kd.Q_nil _ _ _ _ _, ⟨0, _, m1.below (below_alloc (below_alloc (Below.refl _ _) _) _), fun x => by simp⟩, List.nodup_nil, by simp; omega, by omega, Nat.le_refl _⟩
theorem ZS.below {w W W' : World} {ok : Nat → Prop} {l : List Int} (h : ZS w W ok l) (hb : Below W.heap.size W W') : ZS w W' ok l := by
  obtain ⟨vl, hq⟩ := h.que
  exact ⟨h.box.below hb h.box.lt, vl, hq.below hb⟩
theorem ZS.quiet {w W W' : World} {ok : Nat → Prop} {l : List Int} {B : Nat} {row : Option Nat} (h : ZS w W ok l) (hg : W.grownBy W' row) (hr : ∀ r, row = some r → B ≤ r ∧ ∃ o : Obj, W.heap[r]? = some o ∧ o.isCells = false) (hB : w.heap.size < B) : ZS w W' ok l := by
  obtain ⟨vl, hq⟩ := h.que
  obtain ⟨n0, f, hM, hf⟩ := hq.map
  refine ⟨(own_quiet hg hr _ _ _ _ h.box).trans h.box, vl, (own_quiet hg hr _ _ _ _ hq.blk).trans hq.blk, ?_, ⟨n0, f, hM.grown hg (fun e => by have := (hr _ e.symm).1; omega), hf⟩, hq.nod, Nat.le_trans hq.hBs hg.size, hq.hBq, hq.hBm⟩
  exact Kd.Q_mono (Kd.Q_step (Kd.Q_bound hq.row) (fun k hk _ => by
    obtain ⟨_, _, _, t, _, c, hc⟩ := hk
    exact own_quiet hg hr k c t (0, 0) hc)) (fun k hk => hk.1)
/-- A number is put in. -/
theorem ZS.putQ {w W : World} {ok : Nat → Prop} {l : List Int} (h : ZS w W ok l) (x : Int) (hx : inW x = true) (hl : l.length ≤ 1000) (hfr : ∀ k, W.heap.size ≤ k → ok k) :
    Calls Try.prog 50 #[.pointer (some ⟨w.heap.size + 1, 0, none⟩), .int .i64 x] W fun e W' => e = .returned (.tuple #[]) ∧ ZS w W' ok (T.putQ l x) ∧ Below w.heap.size W W' ∧ (∀ k, k < W.heap.size → (∃ c t, W.heap[k]? = some (.cells c t (0, 0)) ∧ t ≠ 3 ∧ t ≠ 105) → W'.heap[k]? = W.heap[k]?) ∧ QKeep ok (w.heap.size + 1) w.heap.size W W' := by
  obtain ⟨vl, hq⟩ := h.que
  refine (put_q hq x hx hl hfr).mono ?_
  rintro e W' ⟨rfl, ⟨v, hv⟩, hk, hb⟩
  exact ⟨rfl, ⟨(hk.typed hq _ h.box.lt ⟨_, _, h.box, by decide, by decide⟩).trans h.box, v, hv⟩, hb, fun k hlt ht => hk.typed hq k hlt ht, hk⟩

/-- What is known on the way, plainly: of what waits (l) and of what each block has (o). -/
structure Way (X : Type) (m : Nat) (g : (Nat → X) → Nat → X) (nx : Nat → List Int) (eqv : X → X → Bool) (Phi : List Int → (Nat → X) → Prop) (pot : (Nat → X) → Nat) : Prop where
  rng : ∀ l o, Phi l o → ∀ x ∈ l, 0 ≤ x ∧ x < (m : Int)
  same : ∀ (n : Nat) l o, Phi ((n : Int) :: l) o → eqv (g o n) (o n) = true → Phi l o
  more : ∀ (n : Nat) l o, Phi ((n : Int) :: l) o → eqv (g o n) (o n) = false → Phi (putAll l (nx n)) (upd o n (g o n)) ∧ pot (upd o n (g o n)) < pot o
  nxr : ∀ (n : Nat) x, x ∈ nx n → 0 ≤ x ∧ x < (m : Int)

set_option maxRecDepth 100000 in
set_option maxHeartbeats 8000000 in
theorem settle_any {X : Type} {m b1 go : Nat} {capo : Nat} {c1 c2 : Value} {St : (Nat → X) → World → Prop} {P : World → Value → X → Prop} {g : (Nat → X) → Nat → X} {nx : Nat → List Int} {eqv : X → X → Bool} {Phi : List Int → (Nat → X) → Prop} {pot : (Nat → X) → Nat} {w : World}
    (hS : Settle X m w.heap.size b1 go 31 32 53 26 c1 c2 St P g nx eqv) (hW : Way X m g nx eqv Phi pot) (hm : m ≤ 1000) (A : Option Addr) (c : Nat) (l0 : List Int) (hl0 : (Kd.int .i64).C w A l0.length l0) (hl1 : l0.length ≤ c) (hl2 : l0.length ≤ 1000) (hl3 : ∀ x ∈ l0, 0 ≤ x ∧ x < (m : Int)) (o : Nat → X) (h0 : St o w) (hP : Phi (putAll [] l0) o) (hgo : go < w.heap.size) (hb1 : b1 ≤ go) (Ast : Option Addr) (hAst : 0 < m → Ast = some ⟨go, 0, none⟩) :
    Calls Try.prog 29 #[.slice Ast m capo, .slice A l0.length c, .func (.func 31) #[] #[], .func (.func 32) #[] #[c1, c2]] w fun e w' => e = .returned (.tuple #[]) ∧ ∃ o', St o' w' ∧ Phi [] o' := by
  have hmk := fun W : World => run_makeMap (P := Try.prog) 103 W
  have HS := Lib.hid hS
  have HW := Lib.hid hW
  have HL := Lib.hid hl0
  have HP := Lib.hid hP
  have H0 := Lib.hid h0
  have HA := Lib.hid hAst
  clear hS hW hl0 hP h0 hAst
  refine (callsIn_wide (n := 9)).1 ?_
  refine callsIn_of_wp_marks Try.func29 rfl trivial ?_ rfl
  simp only [Try.ntmps29, List.size_toArray, List.length_cons, List.length_nil, Nat.reduceAdd, Nat.reduceSub, Array.replicate_succ, Array.replicate_zero, List.push_toArray, List.append_toArray, List.nil_append, List.cons_append]
  gi_wp2
  gi_loopw [20] (fun u wr => ∃ i : Nat, u = .int .i64 i ∧ i ≤ l0.length ∧ Hid (ZS w wr (fun _ => True) (putAll [] (l0.take i))) ∧ Hid (Below w.heap.size w wr) ∧ Hid (St o wr)) (fun u _ => l0.length - (intOf u).toNat)
  case atStart => exact ⟨0, rfl, Nat.zero_le _, Lib.hid (ZS.start w), Lib.hid (below_alloc (below_alloc (below_alloc (Below.refl _ _) _) _) _), Lib.hid (HS.out.below _ _ _ H0.out (below_alloc (below_alloc (below_alloc (Below.refl _ _) _) _) _))⟩
  case round =>
    obtain ⟨i, rfl, hi, HZ, HB, HT⟩ := hrel
    by_cases hlt : i < l0.length
    · have hmem : l0[i] ∈ l0 := List.getElem_mem hlt
      have hx := hl3 _ hmem
      have htk : putAll [] (l0.take (i + 1)) = putQ (putAll [] (l0.take i)) l0[i] := by
        rw [List.take_succ, List.getElem?_eq_getElem hlt]
        exact List.foldl_append
      have hll : (putAll [] (l0.take i)).length ≤ 1000 := by
        obtain ⟨vl, hq⟩ := HZ.out.que
        refine Nat.le_trans (nodup_few hq.nod (m := m) (fun y hy => ?_)) hm
        rcases putAll_mem.1 hy with h | h
        · cases h
        · exact hl3 y (List.mem_of_mem_take h)
      obtain ⟨ad, had, hac⟩ := Kd.at_int (Kd.C_below HL.out HB.out) (i : Int) (by omega) (by omega)
      rw [rd_nat, Int.toNat_natCast, show l0.getD i 0 = l0[i] by simp [List.getD_eq_getElem?_getD, List.getElem?_eq_getElem hlt]] at hac
      subst had
      have HTK := Lib.hid htk
      have hin := inW_small hx.1 (by omega)
      generalize l0[i] = x at *
      have hput := HZ.out.putQ x hin hll (fun _ _ => trivial)
      have hcb : wr.cell? ⟨w.heap.size + 1 + 1, 0, none⟩ = some (.pointer (some ⟨w.heap.size + 1, 0, none⟩)) := HZ.out.box.cell 0 _ rfl
      have HX := Lib.hid hx
      have HPU := Lib.hid hput
      clear htk hput hmem hx hll
      gi_wp2
      refine ⟨trivial, (callsIn_wide.2 HPU.out).mono ?_⟩
      rintro e w3 ⟨rfl, hz3, hb3, hk3, _⟩
      have HZ3 := Lib.hid hz3
      have HB3 := Lib.hid (HB.out.trans hb3)
      have HT3 := Lib.hid (HS.out.queue _ _ _ HT.out hb3 hk3)
      clear hz3 hb3 hk3
      gi_wp2
      go_roundw
      case rel => exact ⟨i + 1, by go_num, by omega, Lib.hid (by rw [HTK.out]; exact HZ3.out), HB3, HT3⟩
      case measure => simp [intOf]; omega
    · obtain rfl : i = l0.length := by omega
      rw [List.take_length] at HZ
      clear hlt hi HB
      gi_wp2
      refine wpIn_loop_ghost_k (fun N_ a' wr => ∃ (u11 u12 u13 u14 u28 u29 u30 u31 u32 u33 u34 u35 u36 u37 u38 u39 u40 u41 u42 u43 u44 u45 u46 u47 u48 u49 u50 u51 u52 u53 u54 u55 u56 u57 : Value) (ds : List Deferred), a' = { tmps := #[Value.slice Ast m capo, Value.slice A l0.length c, Value.func (Fn.func 31) #[] #[], Value.func (Fn.func 32) #[] #[c1, c2], undef, undef, undef, undef, Value.pointer (some ⟨w.heap.size + 1 + 1, 0, none⟩), undef, u10, u11, u12, u13, u14, Value.map (some w.heap.size), Value.agg #[Value.slice none 0 0, Value.map (some w.heap.size)], Value.pointer (some ⟨w.heap.size + 1, 0, none⟩), Value.slice A l0.length c, Value.int IntKind.i64 l0.length, Value.int IntKind.i64 l0.length, Value.bool false, u22, u23, u24, u25, u26, u27, u28, u29, u30, u31, u32, u33, u34, u35, u36, u37, u38, u39, u40, u41, u42, u43, u44, u45, u46, u47, u48, u49, u50, u51, u52, u53, u54, u55, u56, u57], defers := ds } ∧ ∃ (l : List Int) (o' : Nat → X), N_ = pot o' * (m + 1) + l.length ∧ Hid (Phi l o') ∧ Hid (ZS w wr (fun _ => True) l) ∧ Hid (St o' wr) ∧ Hid (Marks w.heap.size wr.heap.size wr ds)) (pot o * (m + 1) + (putAll [] l0).length) ?_ ?_
      · refine ⟨_, _, _, _, _, _, _, _, _, _, _, _, _, _, _, _, _, _, _, _, _, _, _, _, _, _, _, _, _, _, _, _, _, _, _, rfl, ?_⟩
        exact ⟨_, o, rfl, HP, HZ, HT, Lib.hid (Marks.nil _ _ _)⟩
      rintro N_ a' wr ⟨u11, u12, u13, u14, u28, u29, u30, u31, u32, u33, u34, u35, u36, u37, u38, u39, u40, u41, u42, u43, u44, u45, u46, u47, u48, u49, u50, u51, u52, u53, u54, u55, u56, u57, ds, rfl, hrel⟩ J_ K_ hJ hK
      obtain ⟨l, o', rfl, HPh, HZ, HT, HM⟩ := hrel
      have hcb : wr.cell? ⟨w.heap.size + 1 + 1, 0, none⟩ = some (.pointer (some ⟨w.heap.size + 1, 0, none⟩)) := HZ.out.box.cell 0 _ rfl
      obtain ⟨vl, hq⟩ := HZ.out.que
      obtain ⟨Aq, cq, rfl, hlq⟩ := Kd.Q_slice hq.row
      have hcq : wr.cell? ⟨w.heap.size + 1, 0, none⟩ = some (.slice Aq l.length cq) := hq.blk.cell 0 _ rfl
      cases l with
      | nil =>
        clear hJ hK hq hlq
        gi_wp2
        refine Marks.leaves HM.out (.tuple #[]) (fun W => results_none rfl _ _ _) (fun W' hs => ?_)
        exact ⟨rfl, o', HS.out.queue _ _ _ HT.out (hs.below (Below.refl _ _) (Nat.le_refl _)) (fun k _ ht => by obtain ⟨c', t', hc', _⟩ := ht; exact hs.block k (.inr ⟨c', t', (0, 0), hc'⟩)), HPh.out⟩
      | cons x l =>
        have hxr := HW.out.rng _ _ HPh.out x List.mem_cons_self
        obtain ⟨n, rfl⟩ := Int.eq_ofNat_of_zero_le hxr.1
        have hnm : n < m := by omega
        obtain rfl := HA.out (Nat.lt_of_le_of_lt (Nat.zero_le _) hnm)
        have hfew := nodup_few hq.nod (HW.out.rng _ _ HPh.out)
        have htk := take_q hq (inW_small hxr.1 (by omega)) (by simp at hfew; omega)
        have HTK := Lib.hid htk
        clear htk hq
        gi_wp2
        refine ⟨trivial, (callsIn_wide.2 HTK.out).mono ?_⟩
        rintro e w3 ⟨rfl, ⟨v3, hq3⟩, hk3, hb3⟩
        have hqw := Lib.hid hq3
        obtain ⟨vl0, hq0⟩ := HZ.out.que
        have HT3 := Lib.hid (HS.out.queue _ _ _ HT.out hb3 (fun k hlt ht => hk3.typed hq0 k hlt ht))
        have HX3 : Hid (BoxIs w3 (w.heap.size + 2) #[.pointer (some ⟨w.heap.size + 1, 0, none⟩)] 102) := Lib.hid ((hk3.typed hq0 _ HZ.out.box.lt ⟨_, _, HZ.out.box, by decide, by decide⟩).trans HZ.out.box)
        have HTsz := hb3.size
        have HM3 : Hid (Marks w.heap.size wr.heap.size w3 ds) := Lib.hid (hk3.marks hq0 HM.out)
        have hlk := HS.out.look _ _ n HT3.out hnm
        have HLK := Lib.hid hlk
        clear hq3 hk3 hq0 hb3 hlk
        gi_wp2
        refine ⟨trivial, (callsIn_wide.2 HLK.out).mono ?_⟩
        rintro e w4 ⟨u, lb, gb, ga, rfl, hPu, hb4, hgb, hga, hgb', hga', hseq⟩
        have HT4 := Lib.hid (HS.out.below _ _ _ HT3.out hb4)
        obtain ⟨uo, huo, hPo⟩ := HS.out.get _ _ n HT4.out hnm
        obtain ⟨Au, ku, cu, rfl⟩ := HS.out.sl _ _ _ hPu
        obtain ⟨Ao, ko, co, rfl⟩ := HS.out.sl _ _ _ hPo
        have hsame := HS.out.same _ _ _ _ _ hPu hPo
        have HSA := Lib.hid hsame
        have HPU := Lib.hid hPu
        have HSQ := Lib.hid hseq
        have HB4 := Lib.hid hb4
        have p0 : ((0 : Int) ≤ (n : Int)) = True := eq_true (by omega)
        have p1 : ((n : Int) < (m : Int)) = True := eq_true (by omega)
        clear hPu hPo hseq hsame hb4
        gi_wp2
        refine ⟨trivial, (callsIn_wide.2 HSA.out).mono ?_⟩
        rintro e w5 ⟨rfl, hb5⟩
        have hb45 := HB4.out.trans (hb5.mono HB4.out.size)
        have HT5 := Lib.hid (HS.out.below _ _ _ HT4.out hb5)
        have HM5 : Hid (Marks w.heap.size w5.heap.size w5 ds) := Lib.hid ((HM3.out.grown (grown_of_below hb45 none) (fun _ e => by cases e)).upto (Nat.le_trans HTsz (Nat.le_trans HB4.out.size hb5.size)))
        have HZ5 : Hid (ZS w w5 (fun _ => True) l) := Lib.hid ((ZS.below ⟨HX3.out, v3, hqw.out⟩ hb45))
        have HB45 := Lib.hid hb45
        have HPU5 := Lib.hid (HS.out.pb _ _ _ _ HPU.out hb5)
        have HB5 := Lib.hid hb5
        clear hb5 hb45
        cases heq : eqv (g o' n) (o' n) with
        | true =>
          gi_wp2
          refine ⟨pot o' * (m + 1) + l.length, by simp, hJ _ _ _ ⟨_, _, _, _, _, _, _, _, _, _, _, _, _, _, _, _, _, _, _, _, _, _, _, _, _, _, _, _, _, _, _, _, _, _, _, rfl, l, o', rfl, Lib.hid (HW.out.same n l o' HPh.out heq), HZ5, HT5, HM5⟩⟩
        | false =>
          obtain ⟨cg, hcg⟩ := HS.out.blk _ _ HT5.out (by omega)
          have hfz : w5.frozen? ⟨go, n, none⟩ = false := by simp [World.frozen?, hcg]
          obtain ⟨uo5, huo5, _⟩ := HS.out.get _ _ n HT5.out hnm
          have hset := set_grown w5 go n (.slice Au ku cu)
          have HT6 := Lib.hid (HS.out.put _ _ n _ _ HT5.out hnm HPU5.out)
          have HM6 : Hid (Marks w.heap.size w5.heap.size (w5.setCell ⟨go, n, none⟩ (.slice Au ku cu)) ds) := Lib.hid (HM5.out.grown hset (fun k e => by injection e with e; subst e; exact .inr ⟨_, _, _, hcg⟩))
          have HZ6 : Hid (ZS w (w5.setCell ⟨go, n, none⟩ (.slice Au ku cu)) (fun k => k < w3.heap.size ∨ w4.heap.size ≤ k) l) := Lib.hid (by
            have hq5 := hqw.out.below HB45.out
            obtain ⟨n0, f, hM, hf⟩ := hq5.map
            refine ⟨HZ5.out.box.grown hset (fun e => by injection e with e; omega), v3, hq5.blk.grown hset (fun e => by injection e with e; omega), ?_, ⟨n0, f, hM.grown hset (fun e => by injection e with e; omega), hf⟩, hq5.nod, by rw [World.size_setCell]; exact hq5.hBs, hq5.hBq, hq5.hBm⟩
            exact Kd.Q_mono (Kd.Q_grown (Kd.Q_below (Kd.Q_bound hqw.out.row) HB45.out) hset (fun k hk e => by injection e with e; have := hk.2.1; omega)) (fun k hk => .inl hk.2.2.1))
          have hszz := World.size_setCell w5 ⟨go, n, none⟩ (.slice Au ku cu)
          have hs34 := HB4.out.size
          have hs45 := HB5.out.size
          have hsw3 := hqw.out.hBs
          have hseq6 := HSQ.out (w5.setCell ⟨go, n, none⟩ (.slice Au ku cu)) ⟨((HB5.out.mono (show b1 ≤ w4.heap.size by omega)).trans ((Below.refl b1 w5).grown hset (by omega) (fun k e => by injection e with e; omega))), (hset.block _ (by omega) (fun e => by injection e with e; omega)).trans (HB5.out.block _ hgb'), (hset.block _ (by omega) (fun e => by injection e with e; omega)).trans (HB5.out.block _ hga')⟩
          have HSQ6 := Lib.hid hseq6
          have hset' := Lib.hid hset
          have hszz' := Lib.hid hszz
          clear hseq6 hset hszz
          gi_wp2
          have hs6 : (w5.setCell ⟨go, n, none⟩ (.slice Au ku cu)).heap.size = w5.heap.size := hszz'.out
          generalize w5.setCell ⟨go, n, none⟩ (.slice Au ku cu) = w6 at *
          refine wpIn_rangeFunc_ownG rfl (by decide) (gf := 53) (lb := lb) rfl trivial (enters_of Try.func53 (by kernel_rfl) rfl) HSQ6.out kp3_t (kp3_b (by omega) (by omega) (by omega)) (Below.refl _ _) (fun _ => rfl)
            (fun pre W => ZS w W (fun k => k < w3.heap.size ∨ w4.heap.size ≤ k) (putAll l (pre.map (·.1))) ∧ St (upd o' n (g o' n)) W ∧ Marks w.heap.size w5.heap.size W ds ∧ w5.heap.size ≤ W.heap.size)
            (fun _ _ _ => False) ?hI (fun _ _ _ _ _ hs _ _ => hs) ⟨HZ6.out, HT6.out, HM6.out, by omega⟩
            (fun x => { tmps := #[.slice (some ⟨go, 0, none⟩) m capo, .slice A l0.length c, .func (.func 31) #[] #[], .func (.func 32) #[] #[c1, c2], undef, undef, undef, undef, .pointer (some ⟨w.heap.size + 1 + 1, 0, none⟩), undef, u10, .int .i64 n, .slice Au ku cu, .func (.func 53) #[] lb, .int .i64 x.1, .map (some w.heap.size), .agg #[.slice none 0 0, .map (some w.heap.size)], .pointer (some ⟨w.heap.size + 1, 0, none⟩), .slice A l0.length c, .int .i64 l0.length, .int .i64 l0.length, .bool false, u22, u23, u24, u25, u26, u27, .pointer (some ⟨w.heap.size + 1, 0, none⟩), .pointer (some ⟨w.heap.size + 1, 0, none⟩), .pointer (some ⟨w.heap.size + 1, 0, none⟩), .slice Aq (l.length + 1) cq, .int .i64 ((l.length : Int) + 1), .bool true, .pointer (some ⟨w.heap.size + 1, 0, none⟩), .int .i64 n, .tuple #[.slice Au ku cu, .func (.func 53) #[] lb], .func (.func 32) #[] #[c1, c2], .int .i64 n, .tuple #[.slice Au ku cu, .func (.func 53) #[] lb], .slice Au ku cu, .func (.func 53) #[] lb, .func (.func 31) #[] #[], .slice Au ku cu, .slice (some ⟨go, 0, none⟩) m capo, .int .i64 n, .pointer (some ⟨go, n, none⟩), .slice Ao ko co, .bool false, .slice (some ⟨go, 0, none⟩) m capo, .int .i64 n, .slice Au ku cu, .pointer (some ⟨go, n, none⟩), .func (.func 53) #[] lb, .int .i64 x.1, u55, u56, u57], defers := [] }) ?assign ?body ?done ?stop
          case hI =>
            rintro pre W W' row ⟨h1, h2, h3, h4⟩ hg hr
            refine ⟨h1.quiet hg hr (by omega), HS.out.queue _ _ _ h2 ((Below.refl _ _).grown hg (by omega) (fun k e => by have := (hr k e).1; omega)) (fun k _ ht => ?_), h3.grown hg (fun k e => .inl (by have := (hr k e).1; omega)), Nat.le_trans h4 hg.size⟩
            obtain ⟨c', t', hc', _⟩ := ht
            exact own_quiet hg hr k c' t' (0, 0) hc'
          case assign =>
            intro ll x W K hK
            gi_wp2
            exact hK
          case stop =>
            rintro D c pre W _ _ h _
            exact h.elim
          case done =>
            rintro D ys W hD hys ⟨h1, h2, h3, h4⟩ hKD
            rw [hys] at h1
            have hmore := HW.out.more n l o' HPh.out heq
            obtain ⟨vl1, hq1⟩ := h1.que
            have hfew1 := nodup_few hq1.nod (HW.out.rng _ _ hmore.1)
            have hlt' : pot (upd o' n (g o' n)) * (m + 1) + (putAll l (nx n)).length < pot o' * (m + 1) + ((n : Int) :: l).length := by
              have h5 := Nat.mul_le_mul_right (m + 1) (Nat.succ_le_of_lt hmore.2)
              rw [Nat.succ_mul] at h5
              rw [List.length_cons]
              omega
            have hz : Hid (ZS w W (fun _ => True) (putAll l (nx n))) := Lib.hid ⟨h1.box, vl1, hq1.blk, Kd.Q_mono hq1.row (fun _ _ => trivial), hq1.map, hq1.nod, hq1.hBs, hq1.hBq, hq1.hBm⟩
            have ht := Lib.hid h2
            have hm' : Hid (Marks w.heap.size W.heap.size W (markOf D :: ds)) := Lib.hid (h3.cons (by omega) (by omega) (Array.getElem?_eq_some_iff.1 hKD).1 hKD)
            clear h1 h2 h3 hq1 hKD
            gi_wp2
            refine ⟨pot (upd o' n (g o' n)) * (m + 1) + (putAll l (nx n)).length, hlt', hJ _ _ _ ⟨_, _, _, _, _, _, _, _, _, _, _, _, _, _, _, _, _, _, _, _, _, _, _, _, _, _, _, _, _, _, _, _, _, _, _, rfl, putAll l (nx n), upd o' n (g o' n), rfl, Lib.hid hmore.1, hz, ht, hm'⟩⟩
          case body =>
            rintro ll pre ⟨y, hy⟩ W ⟨h1, h2, h3, h4⟩ hpl
            have hyr := HW.out.nxr n y hy
            obtain ⟨vl1, hq1⟩ := h1.que
            have hfew1 := nodup_few (m := m) hq1.nod (fun z hz => by
              rcases putAll_mem.1 hz with hz | hz
              · exact HW.out.rng _ _ HPh.out z (List.mem_cons_of_mem _ hz)
              · obtain ⟨z', _, rfl⟩ := List.mem_map.1 hz
                exact HW.out.nxr n _ z'.2)
            have hput := h1.putQ y (inW_small hyr.1 (by omega)) (by omega) (fun k hk => .inr (by omega))
            have hcb : W.cell? ⟨w.heap.size + 1 + 1, 0, none⟩ = some (.pointer (some ⟨w.heap.size + 1, 0, none⟩)) := h1.box.cell 0 _ rfl
            have H2 := Lib.hid h2
            have H3 := Lib.hid h3
            have HPT := Lib.hid hput
            have HQ1 := Lib.hid hq1
            clear h1 h2 h3 hput hq1
            gi_wp2
            refine ⟨trivial, (CallsIn.inRound ll (callsIn_wide.2 HPT.out)).mono ?_⟩
            rintro e w7 ⟨rfl, hz7, hb7, hk7, hq7⟩
            have hsz7 := hb7.size
            have hsW := HQ1.out.hBs
            have hbig : W.heap.size ≤ w7.heap.size := hb7.size
            have hb3s := HX3.out.lt
            have hm7 := hq7.marks HQ1.out H3.out
            have ht7 := HS.out.queue _ _ _ H2.out hb7 hk7
            gi_wp2
            refine ⟨⟨hbig, fun k ob hB hk ho => (hq7 k (Array.getElem?_eq_some_iff.1 hk).1 (by omega) (by omega) (.inr (fun c' hc' => by rw [hk] at hc'; cases hc'; cases ho))).trans hk⟩, ⟨hb7.mono (by omega), hq7 gb (by omega) (by omega) (by omega) (.inl (by omega)), hq7 ga (by omega) (by omega) (by omega) (.inl (by omega))⟩, ?_, ht7, hm7, Nat.le_trans h4 hbig⟩
            rw [List.map_append, List.map_singleton]
            show ZS w w7 _ (List.foldl T.putQ l (pre.map (·.1) ++ [y]))
            rw [List.foldl_append]
            exact hz7
end Go.Proofs.Ythgnbeeobhfeaaa.T
end
