/- Texts of this claim in one file: H1, H2, H3, H4, RD. -/
import Derived.Test.YthgnbeeobhfeaaaK2
import Derived.Lib.Mul64
import Derived.Laws.Bits64b
import Derived.Lib.LazyBuf
import Derived.ProofKit
import Derived.OpenShut
import Derived.Lib.SmallJoins
import Derived.Deep.Slices
import Derived.Deep.Strs
set_option linter.all false
section
/- Walks: which blocks go to each (the program's). -/
namespace Go.Proofs.Ythgnbeeobhfeaaa.T
open Go.RowKit Go.Shelf Go.Proofs.YthgnbeeobhfeaaaW.PrintWords Go.Proofs.YthgnbeeobhfeaaaW.PrintLast
attribute [local go_sem] Oper.semAt_some

/-! ### Plainly -/
/-- The blocks ahead of i that go to n, and i, if it goes to n by what has come up. -/
def predTo (bs : List Bk) (i : Nat) (pre : List Int) (n : Nat) : List Int := ((List.range i).filter (fun j => edge bs j n)).map (fun j : Nat => (j : Int)) ++ (if (n : Int) ∈ pre then [(i : Int)] else [])
def xssTo (bs : List Bk) (i : Nat) (pre : List Int) : List (List Int) := (List.range bs.length).map (predTo bs i pre)
theorem xssTo_length (bs : List Bk) (i : Nat) (pre : List Int) : (xssTo bs i pre).length = bs.length := by simp [xssTo]
theorem xssTo_get {bs : List Bk} {i n : Nat} {pre : List Int} (h : n < bs.length) : (xssTo bs i pre)[n]? = some (predTo bs i pre n) := by simp [xssTo, h]
theorem xssTo_zero (bs : List Bk) : xssTo bs 0 [] = List.replicate bs.length [] := by
  apply List.ext_getElem?
  intro n
  by_cases h : n < bs.length
  · rw [xssTo_get h]; simp [predTo, h]
  · rw [List.getElem?_eq_none (by rw [xssTo_length]; omega), List.getElem?_eq_none (by simp; omega)]
theorem mem_predTo {bs : List Bk} {i n : Nat} {pre : List Int} : (i : Int) ∈ predTo bs i pre n ↔ (n : Int) ∈ pre := by
  unfold predTo
  rw [List.mem_append]
  constructor
  · rintro (h | h)
    · obtain ⟨j, hj, e⟩ := List.mem_map.1 h
      have := List.mem_range.1 (List.mem_filter.1 hj).1
      omega
    · split at h
      · assumption
      · cases h
  · intro h
    exact .inr (by rw [if_pos h]; simp)
theorem predTo_old {bs : List Bk} {i n : Nat} {pre : List Int} (x : Int) (h : x ≠ n ∨ (n : Int) ∈ pre) : predTo bs i (pre ++ [x]) n = predTo bs i pre n := by
  unfold predTo
  congr 1
  by_cases hn : (n : Int) ∈ pre
  · rw [if_pos hn, if_pos (List.mem_append_left _ hn)]
  · rw [if_neg hn, if_neg (fun hm => ?_)]
    rcases List.mem_append.1 hm with hm | hm
    · exact hn hm
    · rcases h with h | h
      · exact h (List.mem_singleton.1 hm).symm
      · exact hn h
theorem xssTo_old {bs : List Bk} {i : Nat} {pre : List Int} {x : Nat} (h : (x : Int) ∈ pre) : xssTo bs i (pre ++ [(x : Int)]) = xssTo bs i pre := by
  refine List.map_congr_left fun n _ => predTo_old _ ?_
  by_cases e : x = n
  · exact .inr (e ▸ h)
  · exact .inl (by omega)
theorem xssTo_new {bs : List Bk} {i : Nat} {pre : List Int} {x : Nat} (h : (x : Int) ∉ pre) : xssTo bs i (pre ++ [(x : Int)]) = (xssTo bs i pre).set x (predTo bs i pre x ++ [(i : Int)]) := by
  apply List.ext_getElem?
  intro n
  by_cases hn : n < bs.length
  · rw [xssTo_get hn]
    by_cases e : x = n
    · subst e
      rw [List.getElem?_set_self (by rw [xssTo_length]; exact hn)]
      simp [predTo, h]
    · rw [List.getElem?_set_ne e, xssTo_get hn, predTo_old _ (.inl (by omega))]
  · rw [List.getElem?_eq_none (by rw [xssTo_length]; omega), List.getElem?_eq_none (by rw [List.length_set, xssTo_length]; omega)]
theorem xssTo_done {bs : List Bk} {i : Nat} {pre : List Int} (h : pre = succI bs i) : xssTo bs i pre = xssTo bs (i + 1) [] := by
  refine List.map_congr_left fun n _ => ?_
  unfold predTo
  rw [List.range_succ, List.filter_append, List.map_append, h]
  simp only [List.not_mem_nil, if_false, List.append_nil]
  congr 1
  by_cases he : edge bs i n = true
  · rw [if_pos (edge_iff.1 he)]; simp [he]
  · rw [if_neg (fun hm => he (edge_iff.2 hm))]; simp [he]
theorem xssTo_all (bs : List Bk) : xssTo bs bs.length [] = (List.range bs.length).map (predsL bs) := by
  refine List.map_congr_left fun n _ => ?_
  simp [predTo, predsL]
theorem predTo_few {bs : List Bk} {i n : Nat} {pre : List Int} : (predTo bs i pre n).length ≤ i + 1 := by
  unfold predTo
  rw [List.length_append, List.length_map]
  have h1 := List.length_filter_le (fun j => edge bs j n) (List.range i)
  rw [List.length_range] at h1
  split <;> simp <;> omega
theorem encs_at {α : Type} (enc : α → Value) (xss : List (List α)) (i : Nat) : (xss.map (encs enc))[i]? = (xss[i]?).map (encs enc) := by simp

/-! ### The walk -/
/-- What a world of the walk holds. -/
structure PI (w W : World) (gi hi : Nat) (ds : List Deferred) (bC : Array Value) (m : Nat) (i : Int) (xss : List (List Int)) : Prop where
  hgb : BoxIs W w.heap.size bC 25
  hgo : BoxIs W (w.heap.size + 2) #[.slice (some ⟨w.heap.size + 1, 0, none⟩) m m] 39
  rr : ∃ vs, RR W w.heap.size 3 42 (fun k => (w.heap.size < k ∧ k ≠ w.heap.size + 2) ∧ (k < gi ∨ gi + 3 ≤ k)) (.slice (some ⟨w.heap.size + 1, 0, none⟩) m m) vs (xss.map (encs (Value.int .i64)))
  hgi : BoxIs W gi #[.int .i64 i] 3
  low : Below w.heap.size w W
  marks : Marks w.heap.size hi W ds
  big : gi + 3 ≤ W.heap.size
/-- .. between two rounds. -/
structure PS (w W : World) (ds : List Deferred) (bC : Array Value) (m : Nat) (xss : List (List Int)) : Prop where
  hgb : BoxIs W w.heap.size bC 25
  hgo : BoxIs W (w.heap.size + 2) #[.slice (some ⟨w.heap.size + 1, 0, none⟩) m m] 39
  rr : ∃ vs, RR W w.heap.size 3 42 (fun k => w.heap.size < k ∧ k ≠ w.heap.size + 2) (.slice (some ⟨w.heap.size + 1, 0, none⟩) m m) vs (xss.map (encs (Value.int .i64)))
  low : Below w.heap.size w W
  marks : Marks w.heap.size W.heap.size W ds
theorem RR.bound {W : World} {B e1 e2 : Nat} {ok : Nat → Prop} {v : Value} {vs : List Value} {xss : List (List Value)} (h : RR W B e1 e2 ok v vs xss) : RR W B e1 e2 (fun k => ok k ∧ k < W.heap.size) v vs xss :=
  ⟨h.own, h.len, h.inn, h.apart, fun k e => ⟨h.okv k e, own_lt h.own k e⟩, fun u hu k e => ⟨h.oki u hu k e, by obtain ⟨c, hc⟩ := h.typed hu k e; exact (Array.getElem?_eq_some_iff.1 hc).1⟩⟩
theorem PS.start {w : World} {bC : Array Value} {m : Nat} {bs : List Bk} (hm : m ≤ 30) (hb : bs.length = m) :
    PS w (((w.alloc (.cells bC 25)).alloc (.cells (madeCells #[.slice none 0 0] m) 42)).alloc (.cells #[.slice (some ⟨w.heap.size + 1, 0, none⟩) m m] 39)) [] bC m (xssTo bs 0 []) := by
  have h0 : Below w.heap.size w (w.alloc (.cells bC 25)) := below_alloc (Below.refl _ _) _
  have h1 : BoxIs (w.alloc (.cells bC 25)) w.heap.size bC 25 := heap_alloc_new w _
  have hr := RR.nils (w.alloc (.cells bC 25)) w.heap.size 3 42 m (by simp) (by omega)
  rw [World.size_alloc] at hr
  have h3 := heap_alloc_new ((w.alloc (.cells bC 25)).alloc (.cells (madeCells #[.slice none 0 0] m) 42)) (.cells #[.slice (some ⟨w.heap.size + 1, 0, none⟩) m m] 39)
  rw [World.size_alloc, World.size_alloc] at h3
  refine ⟨h1.below (below_alloc (below_alloc (Below.refl _ _) _) _) h1.lt, h3, ⟨List.replicate m (.slice none 0 0), ?_⟩, below_alloc (below_alloc h0 _) _, Marks.nil _ _ _⟩
  rw [xssTo_zero, hb, List.map_replicate]
  exact (hr.mono (fun k hk => by omega)).below (below_alloc (Below.refl _ _) _)
/-- A round begins: its number is boxed, and the iterator's two boxes are laid. -/
theorem PS.begins {w W : World} {ds : List Deferred} {bC : Array Value} {m : Nat} {xss : List (List Int)} (h : PS w W ds bC m xss) (i : Int) (o1 o2 : Obj) : PI w (((W.alloc (.cells #[.int .i64 i] 3)).alloc o1).alloc o2) W.heap.size W.heap.size ds bC m i xss := by
  have hb : Below W.heap.size W (((W.alloc (.cells #[.int .i64 i] 3)).alloc o1).alloc o2) := below_alloc (below_alloc (below_alloc (Below.refl _ _) _) _) _
  obtain ⟨vs, hrr⟩ := h.rr
  refine ⟨h.hgb.below hb h.hgb.lt, h.hgo.below hb h.hgo.lt, ⟨vs, (hrr.bound.below hb).mono (fun k hk => ⟨hk.1, .inl hk.2⟩)⟩, ?_, below_then h.low h.low.size hb, h.marks.grown (grown_of_below hb none) (fun _ e => by cases e), by simp⟩
  have h1 : BoxIs (W.alloc (.cells #[.int .i64 i] 3)) W.heap.size #[.int .i64 i] 3 := heap_alloc_new W _
  exact h1.below (below_alloc (below_alloc (Below.refl (W.alloc (.cells #[.int .i64 i] 3)).heap.size _) o1) o2) (by simp)
theorem PI.ends {w W : World} {gi hi D : Nat} {ds : List Deferred} {bC : Array Value} {m : Nat} {i : Int} {xss : List (List Int)} (h : PI w W gi hi ds bC m i xss) (hD : hi ≤ D) (hw : w.heap.size ≤ D) (hb : W.heap[D]? = some (.deferred (some []))) : PS w W (markOf D :: ds) bC m xss := by
  obtain ⟨vs, hrr⟩ := h.rr
  exact ⟨h.hgb, h.hgo, ⟨vs, hrr.mono (fun k hk => hk.1)⟩, h.low, h.marks.cons hD hw (Array.getElem?_eq_some_iff.1 hb).1 hb⟩
theorem drawn0_trans {A B C : World} (h : Drawn0 A B) (k : Drawn0 B C) : Drawn0 A C := by
  obtain ⟨n, rfl⟩ := h
  obtain ⟨m, rfl⟩ := k
  exact ⟨⟨n + m, World.drewN_drewN ..⟩⟩
theorem drawn0_drew (W : World) : Drawn0 W W.drew := ⟨⟨1, rfl⟩⟩
theorem own_quiet {B : Nat} {W W' : World} {row : Option Nat} (hg : W.grownBy W' row) (hr : ∀ r, row = some r → B ≤ r ∧ ∃ o : Obj, W.heap[r]? = some o ∧ o.isCells = false) (k : Nat) (c : Array Value) (t : TypeId) (z : Nat × Nat) (hc : W.heap[k]? = some (.cells c t z)) : W'.heap[k]? = W.heap[k]? := by
  refine hg.block k (Array.getElem?_eq_some_iff.1 hc).1 (fun e => ?_)
  obtain ⟨_, o, ho, hf⟩ := hr k e.symm
  rw [hc] at ho
  cases ho
  cases hf
theorem PI.ownFrom {α : Type} {w : World} {gi hi B : Nat} {ds : List Deferred} {bC : Array Value} {m : Nat} {i : Int} (f : α → List (List Int)) (hB : hi ≤ B) (hw : w.heap.size ≤ B) : OwnFrom B (fun (pre : α) W => PI w W gi hi ds bC m i (f pre)) := by
  intro s W W' row h hg hr
  obtain ⟨vs, hrr⟩ := h.rr
  exact ⟨(own_quiet hg hr _ _ _ _ h.hgb).trans h.hgb, (own_quiet hg hr _ _ _ _ h.hgo).trans h.hgo, ⟨vs, hrr.quiet (own_quiet hg hr)⟩, (own_quiet hg hr _ _ _ _ h.hgi).trans h.hgi,
    h.low.grown hg h.low.size (fun k e => Nat.le_trans hw (hr k e).1), h.marks.grown hg (fun k e => .inl (Nat.le_trans hB (hr k e).1)), Nat.le_trans h.big hg.size⟩
theorem PI.drew {w W : World} {gi hi : Nat} {ds : List Deferred} {bC : Array Value} {m : Nat} {i : Int} {xss : List (List Int)} (h : PI w W gi hi ds bC m i xss) {W' : World} (hd : Drawn0 W W') : PI w W' gi hi ds bC m i xss := by
  have hb := hd.below
  obtain ⟨vs, hrr⟩ := h.rr
  exact ⟨h.hgb.below hb h.hgb.lt, h.hgo.below hb h.hgo.lt, ⟨vs, hrr.below hb⟩, h.hgi.below hb h.hgi.lt, below_then h.low h.low.size hb, h.marks.grown (grown_of_below hb none) (fun _ e => by cases e), Nat.le_trans h.big hb.size⟩

set_option maxRecDepth 100000 in
set_option maxHeartbeats 4000000 in
theorem preds_any (s : ByteArray) (p : Int) (A2 : Option Addr) (n2 c2 : Nat) (A3 : Option Addr) (c3 : Nat) (l03 : List S58) (w : World) (hC : Kd.C k58 w A3 l03.length l03) (hf : fewB l03 = true) :
    Calls Try.prog 18 #[bodyV s p A2 n2 c2 A3 l03.length c3] w fun e w' => ∃ v vs, e = .returned v ∧ RR w' w.heap.size 3 42 (fun k => w.heap.size ≤ k) v vs (((List.range l03.length).map (predsL (bksOf l03))).map (encs (Value.int .i64))) ∧ Below w.heap.size w w' := by
  have hm := (fewB_at hf).1
  have hmk := run_make_row' (P := Try.prog) 39 42 (.slice none 0 0) 24 Try.underlying39 info42 rfl .i64 .i64 l03.length (by omega) (by omega)
  have hbl := bksOf_length l03
  refine (callsIn_wide (n := 9)).1 ?_
  refine callsIn_of_wp_marks Try.func18 rfl trivial ?_ rfl
  simp only [Try.ntmps18, List.size_toArray, List.length_cons, List.length_nil, Nat.reduceAdd, Nat.reduceSub, Array.replicate_succ, Array.replicate_zero, List.push_toArray, List.append_toArray, List.nil_append, List.cons_append]
  gi_wp2
  have HF := Lib.hid hf
  have HC := Lib.hid hC
  clear hmk hf hC
  refine wpIn_loop (fun a' wr => ∃ (u4 u5 u13 u14 u15 u16 u17 u18 u19 u20 u21 u22 u23 u24 u25 u26 u27 u28 u29 u30 u31 u32 u33 u34 u35 u36 u37 : Value) (ds : List Deferred), a' = { tmps := #[bodyV s p A2 n2 c2 A3 l03.length c3, Value.pointer (some ⟨w.heap.size, 0, none⟩), Value.slice none 0 0, Value.pointer (some ⟨w.heap.size + 1 + 1, 0, none⟩), u4, u5, Value.pointer (some ⟨w.heap.size, 3, none⟩), Value.slice A3 l03.length c3, Value.int IntKind.i64 l03.length, Value.slice (some ⟨w.heap.size + 1, 0, none⟩) l03.length l03.length, Value.pointer (some ⟨w.heap.size, 3, none⟩), Value.slice A3 l03.length c3, Value.int IntKind.i64 l03.length, u13, u14, u15, u16, u17, u18, u19, u20, u21, u22, u23, u24, u25, u26, u27, u28, u29, u30, u31, u32, u33, u34, u35, u36, u37, undef], defers := ds } ∧ ∃ (i : Nat), u13 = .int .i64 i ∧ i ≤ l03.length ∧ Hid (PS w wr ds (bodyC s p A2 n2 c2 A3 l03.length c3) l03.length (xssTo (bksOf l03) i []))) (fun a' wr => (fun (u13 : Value) => l03.length - (intOf u13).toNat) (a'.tmps.getD 13 undef)) ?_ ?_
  · refine ⟨_, _, _, _, _, _, _, _, _, _, _, _, _, _, _, _, _, _, _, _, _, _, _, _, _, _, _, _, rfl, ?_⟩
    refine ⟨0, rfl, Nat.zero_le _, Lib.hid ?_⟩
    exact PS.start hm hbl
  rintro a' wr ⟨u4, u5, u13, u14, u15, u16, u17, u18, u19, u20, u21, u22, u23, u24, u25, u26, u27, u28, u29, u30, u31, u32, u33, u34, u35, u36, u37, ds, rfl, hrel⟩
  obtain ⟨i, rfl, hi, hPS⟩ := hrel
  by_cases hlt : (i : Int) < (l03.length : Int)
  · have hcb : ∀ o, (wr.alloc o).cell? ⟨w.heap.size, 0, none⟩ = some (.string s) := fun o => pw_cell_below (below_alloc (Below.refl _ _) o) (hPS.out.hgb.cell 0 _ rfl)
    have hcb1 : ∀ o, (wr.alloc o).cell? ⟨w.heap.size, 1, none⟩ = some (.int .i64 p) := fun o => pw_cell_below (below_alloc (Below.refl _ _) o) (hPS.out.hgb.cell 1 _ rfl)
    have hcb2 : ∀ o, (wr.alloc o).cell? ⟨w.heap.size, 2, none⟩ = some (.slice A2 n2 c2) := fun o => pw_cell_below (below_alloc (Below.refl _ _) o) (hPS.out.hgb.cell 2 _ rfl)
    have hcb3 : ∀ o, (wr.alloc o).cell? ⟨w.heap.size, 3, none⟩ = some (.slice A3 l03.length c3) := fun o => pw_cell_below (below_alloc (Below.refl _ _) o) (hPS.out.hgb.cell 3 _ rfl)
    gi_wp2
    refine ⟨trivial, (callsIn_wide.2 (to_any s p A2 n2 c2 A3 l03.length c3 i _)).mono ?_⟩
    rintro e w' ⟨rfl, rfl⟩
    clear hcb hcb1 hcb2 hcb3
    gi_wp2
    obtain ⟨W0, hW0⟩ : ∃ W0, W0 = (((wr.alloc (.cells #[.int .i64 i] 3)).alloc (.cells (bodyC s p A2 n2 c2 A3 l03.length c3) 25)).alloc (.cells #[.int .i64 i] 3)) := ⟨_, rfl⟩
    have hI0 : PI w W0 wr.heap.size wr.heap.size ds (bodyC s p A2 n2 c2 A3 l03.length c3) l03.length i (xssTo (bksOf l03) i []) := hW0 ▸ hPS.out.begins i _ _
    have hsz0 : W0.heap.size = wr.heap.size + 3 := by rw [hW0]; simp
    have hT : ToAt W0 w.heap.size (wr.heap.size + 1) (wr.heap.size + 2) s p A2 n2 c2 A3 c3 l03 i := by
      refine ⟨?_, ?_, w, hI0.low, Nat.le_refl _, HC.out⟩
      · rw [hW0]
        have h1 : BoxIs ((wr.alloc (.cells #[.int .i64 i] 3)).alloc (.cells (bodyC s p A2 n2 c2 A3 l03.length c3) 25)) (wr.heap.size + 1) (bodyC s p A2 n2 c2 A3 l03.length c3) 25 := by
          have := heap_alloc_new (wr.alloc (.cells #[.int .i64 i] 3)) (.cells (bodyC s p A2 n2 c2 A3 l03.length c3) 25)
          rwa [World.size_alloc] at this
        exact h1.below (below_alloc (Below.refl _ _) _) h1.lt
      · rw [hW0]
        have := heap_alloc_new ((wr.alloc (.cells #[.int .i64 i] 3)).alloc (.cells (bodyC s p A2 n2 c2 A3 l03.length c3) 25)) (.cells #[.int .i64 i] 3)
        rwa [World.size_alloc, World.size_alloc] at this
    have hwr := hPS.out.low.size
    rw [← hW0]
    clear hW0 hPS
    have hfew := (fewB_at HF.out).2
    have hsi : i < l03.length := by omega
    have htz : (rd_T58 l03 i).f1.f5.length ≤ 30 := by
      have hmem : rd_T58 l03 i ∈ l03 := by
        have e : rd_T58 l03 i = l03[i] := by simp [rd_T58, List.getElem?_eq_getElem hsi, List.getD_eq_getElem?_getD]
        rw [e]; exact List.getElem_mem hsi
      exact (hfew _ hmem).2
    refine wpIn_rangeFunc_ownG rfl (by decide) (gf := 53) (lb := #[.pointer (some ⟨wr.heap.size + 1, 0, none⟩), .pointer (some ⟨wr.heap.size + 2, 0, none⟩)]) rfl trivial (enters_of Try.func53 (by kernel_rfl) rfl)
      (to_stops 8 (by decide) w.heap.size (wr.heap.size + 1) (wr.heap.size + 2) s p A2 n2 c2 A3 c3 l03 i hsi (by omega) (by omega) W0 (by omega) (by omega) (by omega) hT) kp3_t (kp3_b (by omega) (by omega) (by omega)) (Below.refl _ _) (fun _ => rfl)
      (fun pre W => PI w W wr.heap.size wr.heap.size ds (bodyC s p A2 n2 c2 A3 l03.length c3) l03.length i (xssTo (bksOf l03) i (pre.map (·.1))))
      (fun _ _ _ => False) (PI.ownFrom (fun pre : List (Sx (bksOf l03) i) => xssTo (bksOf l03) i (pre.map (·.1))) (by omega) (by omega)) (fun _ _ _ _ _ hs _ _ => hs) hI0
      (fun x => { tmps := #[bodyV s p A2 n2 c2 A3 l03.length c3, .pointer (some ⟨w.heap.size, 0, none⟩), .slice none 0 0, .pointer (some ⟨w.heap.size + 1 + 1, 0, none⟩), .pointer (some ⟨wr.heap.size, 0, none⟩), .int .i64 x.1, .pointer (some ⟨w.heap.size, 3, none⟩), .slice A3 l03.length c3, .int .i64 l03.length, .slice (some ⟨w.heap.size + 1, 0, none⟩) l03.length l03.length, .pointer (some ⟨w.heap.size, 3, none⟩), .slice A3 l03.length c3, .int .i64 l03.length, .int .i64 i, .bool true, .int .i64 i, bodyV s p A2 n2 c2 A3 l03.length c3, .int .i64 i, .func (.func 53) #[] #[.pointer (some ⟨wr.heap.size + 1, 0, none⟩), .pointer (some ⟨wr.heap.size + 1 + 1, 0, none⟩)], .int .i64 x.1, u20, u21, u22, u23, u24, u25, u26, u27, u28, u29, u30, u31, u32, u33, u34, u35, u36, u37, undef], defers := [] }) ?assign ?body ?done ?stop
    case assign =>
      intro l x W K hK
      gi_wp2
      exact hK
    case stop =>
      rintro D c pre W _ _ h _
      exact h.elim
    case done =>
      rintro D ys W hD hS hI hK
      rw [xssTo_done hS] at hI
      have hPS := Lib.hid (hI.ends (D := D) (by omega) (by omega) hK)
      clear hI hK hI0 hT
      have hwi := wrap_up (i := (i : Int)) (n := l03.length) (by omega) hlt (by omega)
      gi_wp2
      refine ⟨⟨_, _, _, _, _, _, _, _, _, _, _, _, _, _, _, _, _, _, _, _, _, _, _, _, _, _, _, _, rfl, i + 1, by rfl, by omega, hPS⟩, ?_⟩
      simp [intOf]
      omega
    case body =>
      rintro l pre ⟨x, hx⟩ W hI hpl
      have hxm := mem_succI hx
      obtain ⟨xn, rfl⟩ := Int.eq_ofNat_of_zero_le hxm.1
      rw [hbl] at hxm
      have hxl : xn < l03.length := by omega
      obtain ⟨vs, hrr⟩ := hI.rr
      have hvl : vs.length = l03.length := by rw [hrr.len, List.length_map, xssTo_length, hbl]
      obtain ⟨u, hu⟩ : ∃ u, vs[xn]? = some u := ⟨_, List.getElem?_eq_getElem (by omega)⟩
      have hux := hrr.inn xn u _ hu (by rw [encs_at, xssTo_get (by omega)]; rfl)
      generalize hpr : predTo (bksOf l03) i (pre.map (·.1)) xn = pr at *
      rw [encs_length] at hux
      obtain ⟨A, c, rfl, hle, hCu⟩ := Kd.R_reads (Kd.R_of_own (h1 := fun _ => rfl) (enc := Value.int .i64) (ok := fun _ => True) hux (fun _ _ => trivial))
      have hCu : (Kd.int .i64).C W A pr.length pr := hCu
      have hc1 : ∀ W', Below W.heap.size W W' → W'.cell? ⟨w.heap.size + 1 + 1, 0, none⟩ = some (.slice (some ⟨w.heap.size + 1, 0, none⟩) l03.length l03.length) ∧ W'.cell? ⟨w.heap.size + 1, xn, none⟩ = some (.slice A pr.length c) ∧ W'.cell? ⟨wr.heap.size, 0, none⟩ = some (.int .i64 i) := fun W' hb =>
        ⟨pw_cell_below hb (hI.hgo.cell 0 _ rfl), pw_cell_below hb (hrr.cell hu), pw_cell_below hb (hI.hgi.cell 0 _ rfl)⟩
      have q0 : ((0 : Int) ≤ (xn : Int)) = True := eq_true (by omega)
      have q1 : ((xn : Int) < (l03.length : Int)) = True := eq_true (by omega)
      have hpf : pr.length ≤ i + 1 := by rw [← hpr]; exact predTo_few
      have HPR := Lib.hid hpr
      have hcn : ((i : Int) ∈ pr) ↔ ((xn : Int) ∈ pre.map (·.1)) := by rw [← hpr]; exact mem_predTo
      have HI := Lib.hid hI
      have HR := Lib.hid hrr
      have HU := Lib.hid hux
      have HUU := Lib.hid hu
      have HCN := Lib.hid hcn
      clear hI hrr hI0 hT hpr hux hu hcn
      gi_wp2
      rename_i K7 hK7
      refine round_start (hd := by kernel_rfl) (n := 7) (S := fun w' => w'.cell? ⟨w.heap.size + 1 + 1, 0, none⟩ = some (.slice (some ⟨w.heap.size + 1, 0, none⟩) l03.length l03.length) ∧ w'.cell? ⟨w.heap.size + 1, xn, none⟩ = some (.slice A pr.length c) ∧ w'.cell? ⟨wr.heap.size, 0, none⟩ = some (.int .i64 i)) (ds := []) #[false, false, false, false, false, false, false] (by kernel_rfl) rfl rfl ⟨(hc1 _ (below_drew (Below.refl _ _))).1, (hc1 _ (below_drew (Below.refl _ _))).2.1, (hc1 _ (below_drew (Below.refl _ _))).2.2⟩ (fun hHeld => ?_)
      refine pure_ (i := 1) (N := some 21) (v := ?_) (a' := ?_) #[false, true, false, false, false, false, false] rfl rfl (by kernel_rfl) (fun _ _ _ h => by cases h.1) (Or.inl ⟨by rfl, ?_⟩) ?_ ?_
      rotate_left
      · intro w'
        go_simp
        with_reducible rfl
      rotate_left
      · simp only [Act.put, List.setIfInBounds_toArray, List.set_cons_zero, List.set_cons_succ, i64_w, i32_w]
        rfl
      refine take_ (i := 0) (N := some 20) (v := ?_) (a' := ?_) #[true, true, false, false, false, false, false] rfl rfl (by kernel_rfl) (fun _ _ _ h => by cases h.1) (Or.inl ⟨by rfl, ?_⟩) hHeld ?_ ?_
      rotate_left
      · rintro w' ⟨s0, s1, s2⟩
        go_simp
        with_reducible rfl
      rotate_left
      · simp only [Act.put, List.setIfInBounds_toArray, List.set_cons_zero, List.set_cons_succ, i64_w, i32_w]
        rfl
      refine pure_ (i := 2) (N := some 22) (v := ?_) (a' := ?_) #[true, true, true, false, false, false, false] rfl rfl (by kernel_rfl) (fun _ _ _ h => by cases h.1) (Or.inl ⟨by rfl, ?_⟩) ?_ ?_
      rotate_left
      · intro w'
        go_simp
        with_reducible rfl
      rotate_left
      · simp only [Act.put, List.setIfInBounds_toArray, List.set_cons_zero, List.set_cons_succ, i64_w, i32_w]
        rfl
      refine take_ (i := 3) (N := some 23) (v := ?_) (a' := ?_) #[true, true, true, true, false, false, false] rfl rfl (by kernel_rfl) (fun _ _ _ h => by cases h.1) (Or.inl ⟨by rfl, ?_⟩) hHeld ?_ ?_
      rotate_left
      · rintro w' ⟨s0, s1, s2⟩
        go_simp
        with_reducible rfl
      rotate_left
      · simp only [Act.put, List.setIfInBounds_toArray, List.set_cons_zero, List.set_cons_succ, i64_w, i32_w]
        rfl
      refine take_ (i := 4) (N := some 24) (v := ?_) (a' := ?_) #[true, true, true, true, true, false, false] rfl rfl (by kernel_rfl) (fun _ _ _ h => by cases h.1) (Or.inl ⟨by rfl, ?_⟩) hHeld ?_ ?_
      rotate_left
      · rintro w' ⟨s0, s1, s2⟩
        go_simp
        with_reducible rfl
      rotate_left
      · simp only [Act.put, List.setIfInBounds_toArray, List.set_cons_zero, List.set_cons_succ, i64_w, i32_w]
        rfl
      refine one_ (i := 5) (N := some 25) #[true, true, true, true, true, true, false] rfl rfl (by kernel_rfl) (by decide) (fun K hK => ?_)
      refine goes_ Try.func48 (by kernel_rfl) rfl #[.slice A pr.length c, .int .i64 i] (by rfl) rfl rfl (by simp only [List.map_toArray, List.map_cons, List.map_nil]; rfl) ?_
      with_reducible refine (contains_any A c pr i _ (Kd.C_below hCu (below_drew (Below.refl _ _))) hle).mono ?_
      rintro e w3 ⟨rfl, hd3⟩
      refine ⟨_, rfl, ?_⟩
      have hw3 : Drawn0 W w3 := drawn0_trans (drawn0_drew W) hd3
      refine hK.out _ _ ⟨(hc1 _ (hw3.below)).1, (hc1 _ (hw3.below)).2.1, (hc1 _ (hw3.below)).2.2⟩ (fun hHeld => ?_)
      clear hK K
      refine norm_ (a' := ?_) ?_ ?_
      rotate_left
      · show Act.put _ (some 25) _ = _
        simp only [Act.put, List.setIfInBounds_toArray, List.set_cons_zero, List.set_cons_succ, i64_w, i32_w]
        rfl
      refine pure_ (i := 6) (N := some 26) (v := ?_) (a' := ?_) #[true, true, true, true, true, true, true] rfl rfl (by kernel_rfl) (fun _ _ _ h => by cases h.1) (Or.inl ⟨by rfl, ?_⟩) ?_ ?_
      rotate_left
      · intro w'
        go_simp
        with_reducible rfl
      rotate_left
      · simp only [Act.put, List.setIfInBounds_toArray, List.set_cons_zero, List.set_cons_succ, i64_w, i32_w]
        rfl
      refine done_ (by kernel_rfl) ?_
      have hw4 : Below W.heap.size W w3.drew := below_then hw3.below hw3.below.size (below_drew (Below.refl _ _))
      have HW3 := Lib.hid hw3
      by_cases hin : (i : Int) ∈ pr
      · simp only [hin, decide_true, Bool.not_true]
        refine ⟨rfl, hK7 _ _ ?_⟩
        clear hK7 K7
        gi_wp2
        have hPI : PI w w3 wr.heap.size wr.heap.size ds (bodyC s p A2 n2 c2 A3 l03.length c3) l03.length i (xssTo (bksOf l03) i ((pre ++ [(⟨(xn : Int), hx⟩ : Sx (bksOf l03) i)]).map (·.1))) := by
          rw [List.map_append, List.map_singleton, xssTo_old (HCN.out.1 hin)]
          exact HI.out.drew HW3.out
        exact ⟨keeps_below HW3.out.below, ⟨HW3.out.below.mono HI.out.low.size, HW3.out.below.block _ (by have := HI.out.big; omega), HW3.out.below.block _ (by have := HI.out.big; omega)⟩, hPI⟩
      · simp only [hin, decide_false, Bool.not_false]
        refine ⟨rfl, hK7 _ _ ?_⟩
        clear hK7 K7
        gi_wp2
        refine round_start (hd := by kernel_rfl) (n := 11) (S := fun w' => w'.cell? ⟨w.heap.size + 1 + 1, 0, none⟩ = some (.slice (some ⟨w.heap.size + 1, 0, none⟩) l03.length l03.length) ∧ w'.cell? ⟨w.heap.size + 1, xn, none⟩ = some (.slice A pr.length c) ∧ w'.cell? ⟨wr.heap.size, 0, none⟩ = some (.int .i64 i)) (ds := [10]) #[false, false, false, false, false, false, false, false, false, false, false] (by kernel_rfl) rfl rfl ⟨(hc1 _ (hw4)).1, (hc1 _ (hw4)).2.1, (hc1 _ (hw4)).2.2⟩ (fun hHeld => ?_)
        refine pure_ (i := 1) (N := some 28) (v := ?_) (a' := ?_) #[false, true, false, false, false, false, false, false, false, false, false] rfl rfl (by kernel_rfl) (fun _ _ _ h => by cases h.1) (Or.inl ⟨by rfl, ?_⟩) ?_ ?_
        rotate_left
        · intro w'
          go_simp
          with_reducible rfl
        rotate_left
        · simp only [Act.put, List.setIfInBounds_toArray, List.set_cons_zero, List.set_cons_succ, i64_w, i32_w]
          rfl
        refine pure_ (i := 3) (N := some 30) (v := ?_) (a' := ?_) #[false, true, false, true, false, false, false, false, false, false, false] rfl rfl (by kernel_rfl) (fun _ _ _ h => by cases h.1) (Or.inl ⟨by rfl, ?_⟩) ?_ ?_
        rotate_left
        · intro w'
          go_simp
          with_reducible rfl
        rotate_left
        · simp only [Act.put, List.setIfInBounds_toArray, List.set_cons_zero, List.set_cons_succ, i64_w, i32_w]
          rfl
        refine take_ (i := 0) (N := some 27) (v := ?_) (a' := ?_) #[true, true, false, true, false, false, false, false, false, false, false] rfl rfl (by kernel_rfl) (fun _ _ _ h => by cases h.1) (Or.inl ⟨by rfl, ?_⟩) hHeld ?_ ?_
        rotate_left
        · rintro w' ⟨s0, s1, s2⟩
          go_simp
          with_reducible rfl
        rotate_left
        · simp only [Act.put, List.setIfInBounds_toArray, List.set_cons_zero, List.set_cons_succ, i64_w, i32_w]
          rfl
        refine take_ (i := 2) (N := some 29) (v := ?_) (a' := ?_) #[true, true, true, true, false, false, false, false, false, false, false] rfl rfl (by kernel_rfl) (fun _ _ _ h => by cases h.1) (Or.inl ⟨by rfl, ?_⟩) hHeld ?_ ?_
        rotate_left
        · rintro w' ⟨s0, s1, s2⟩
          go_simp
          with_reducible rfl
        rotate_left
        · simp only [Act.put, List.setIfInBounds_toArray, List.set_cons_zero, List.set_cons_succ, i64_w, i32_w]
          rfl
        refine pure_ (i := 4) (N := some 31) (v := ?_) (a' := ?_) #[true, true, true, true, true, false, false, false, false, false, false] rfl rfl (by kernel_rfl) (fun _ _ _ h => by cases h.1) (Or.inl ⟨by rfl, ?_⟩) ?_ ?_
        rotate_left
        · intro w'
          go_simp
          with_reducible rfl
        rotate_left
        · simp only [Act.put, List.setIfInBounds_toArray, List.set_cons_zero, List.set_cons_succ, i64_w, i32_w]
          rfl
        refine take_ (i := 5) (N := some 32) (v := ?_) (a' := ?_) #[true, true, true, true, true, true, false, false, false, false, false] rfl rfl (by kernel_rfl) (fun _ _ _ h => by cases h.1) (Or.inl ⟨by rfl, ?_⟩) hHeld ?_ ?_
        rotate_left
        · rintro w' ⟨s0, s1, s2⟩
          go_simp
          with_reducible rfl
        rotate_left
        · simp only [Act.put, List.setIfInBounds_toArray, List.set_cons_zero, List.set_cons_succ, i64_w, i32_w]
          rfl
        refine take_ (i := 6) (N := some 33) (v := ?_) (a' := ?_) #[true, true, true, true, true, true, true, false, false, false, false] rfl rfl (by kernel_rfl) (fun _ _ _ h => by cases h.1) (Or.inl ⟨by rfl, ?_⟩) hHeld ?_ ?_
        rotate_left
        · rintro w' ⟨s0, s1, s2⟩
          go_simp
          with_reducible rfl
        rotate_left
        · simp only [Act.put, List.setIfInBounds_toArray, List.set_cons_zero, List.set_cons_succ, i64_w, i32_w]
          rfl
        refine one_ (i := 7) (N := some 34) #[true, true, true, true, true, true, true, true, false, false, false] rfl rfl (by kernel_rfl) (by decide) (fun K hK => ?_)
        refine value_ (w1 := ?_) (v := ?_) (by rfl) rfl ?_ ?_
        rotate_left 2
        · go_simp
          constructor
          · rfl
          · rfl
        refine hK.out _ _ ⟨(hc1 _ (below_alloc hw4 _)).1, (hc1 _ (below_alloc hw4 _)).2.1, (hc1 _ (below_alloc hw4 _)).2.2⟩ (fun hHeld => ?_)
        clear hK K
        refine norm_ (a' := ?_) ?_ ?_
        rotate_left
        · show Act.put _ (some 34) _ = _
          simp only [Act.put, List.setIfInBounds_toArray, List.set_cons_zero, List.set_cons_succ, i64_w, i32_w]
          rfl
        refine one_ (i := 8) (N := some 35) #[true, true, true, true, true, true, true, true, true, false, false] rfl rfl (by kernel_rfl) (by decide) (fun K hK => ?_)
        refine step_append_cells (W := w3.drew) (w0 := w) w.heap.size (by rfl) (.tmp 32) (.tmp 34) 42 3 (.int .i64 0) 1 8 rfl Try.underlying42 info3 rfl (by decide) (by decide) (.slice A pr.length c) pr.length (encs (Value.int .i64) pr) [.int .i64 i] rfl rfl rfl (by simp [Value.oneCell']) (pw_own_below HU.out hw4) (below_then HI.out.low HI.out.low.size hw4) (Nat.le_trans HI.out.low.size hw4.size) (by omega) ?_
        intro u1 w5 ho5 hb5 hg5 hat5
        obtain ⟨A1, c1, rfl⟩ := own_slice ho5
        have hrow5 : ∀ k, (Value.slice A pr.length c).ownBlock = some k → k ≠ w.heap.size + 1 := fun k e hk => by obtain ⟨cc, hcc⟩ := HR.out.typed (List.mem_of_getElem? HUU.out) k e; obtain ⟨c', hc'⟩ := own_typed HR.out.own _ rfl; rw [hk, hc'] at hcc; injection hcc with hcc; injection hcc with _ hcc; cases hcc
        have hx5 : w5.cell? ⟨w.heap.size + 1, xn, none⟩ = some (.slice A pr.length c) := (hg5.cell (pw_cell_below hw4 (HR.out.cell HUU.out)) (fun e => hrow5 _ e.symm rfl))
        have hf5 : w5.frozen? ⟨w.heap.size + 1, xn, none⟩ = false := by obtain ⟨c', hc'⟩ := own_typed HR.out.own _ rfl; have h6 : w5.heap[w.heap.size + 1]? = some (.cells c' 42 (0, 0)) := (hg5.block _ (Nat.lt_of_lt_of_le (own_lt HR.out.own _ rfl) hw4.size) (fun e => hrow5 _ e.symm rfl)).trans ((hw4.block _ (own_lt HR.out.own _ rfl)).trans hc'); simp [World.frozen?, h6]
        have hgi5 : w5.cell? ⟨wr.heap.size, 0, none⟩ = some (.int .i64 i) := hg5.cell (pw_cell_below hw4 (HI.out.hgi.cell 0 _ rfl)) (fun e => by have := HR.out.oki _ (List.mem_of_getElem? HUU.out) _ e.symm; have := this.2; simp only at this; omega)
        have hgo5 : w5.cell? ⟨w.heap.size + 1 + 1, 0, none⟩ = some (.slice (some ⟨w.heap.size + 1, 0, none⟩) l03.length l03.length) := hg5.cell (pw_cell_below hw4 (HI.out.hgo.cell 0 _ rfl)) (fun e => by obtain ⟨cc, hcc⟩ := HR.out.typed (List.mem_of_getElem? HUU.out) _ e.symm; have h6 := HI.out.hgo; unfold BoxIs at h6; rw [show w.heap.size + 2 = w.heap.size + 1 + 1 from rfl, hcc] at h6; injection h6 with h6; injection h6 with _ h6; cases h6)
        refine hK.out _ _ ⟨hgo5, hx5, hgi5⟩ (fun hHeld => ?_)
        clear hK K
        refine norm_ (a' := ?_) ?_ ?_
        rotate_left
        · show Act.put _ (some 35) _ = _
          simp only [Act.put, List.setIfInBounds_toArray, List.set_cons_zero, List.set_cons_succ, i64_w, i32_w]
          rfl
        refine pure_ (i := 9) (N := some 36) (v := ?_) (a' := ?_) #[true, true, true, true, true, true, true, true, true, true, false] rfl rfl (by kernel_rfl) (fun _ _ _ h => by cases h.1) (Or.inl ⟨by rfl, ?_⟩) ?_ ?_
        rotate_left
        · intro w'
          go_simp
          with_reducible rfl
        rotate_left
        · simp only [Act.put, List.setIfInBounds_toArray, List.set_cons_zero, List.set_cons_succ, i64_w, i32_w]
          rfl
        refine last_ (i := 10) (N := none) #[true, true, true, true, true, true, true, true, true, true, true] rfl rfl (by kernel_rfl) (by decide) (fun K hK => ?_)
        refine skip_ (w1 := ?_) (by rfl) rfl ?_ ?_
        rotate_left
        · go_simp
          rfl
        refine hK.out _ _ ?_
        clear hK K
        refine done_ (by kernel_rfl) ?_
        refine ⟨rfl, ?_⟩
        have hbig := HI.out.big
        have hs4 := hw4.size
        have hlow := HI.out.low.size
        have hbig := HI.out.big
        have hs4 := hw4.size
        have hlow := HI.out.low.size
        have hrr4 := HR.out.below hw4
        have hrr5 := hrr4.put (i := xn) (by decide) HUU.out (W1 := w5) (u1 := .slice A1 (pr.length + 1) c1) (ys := encs (Value.int .i64) (pr ++ [(i : Int)])) (by rw [encs_length]; simpa [encs] using ho5) hg5 hat5 (fun k hk => ⟨⟨by omega, by omega⟩, .inr (by omega)⟩)
        obtain ⟨hfar, hbel, hkp⟩ := hrr4.put_out (u1 := .slice A1 (pr.length + 1) c1) HUU.out hg5
        have hfar' : ∀ k, k < W.heap.size → ¬ ((w.heap.size < k ∧ k ≠ w.heap.size + 2) ∧ (k < wr.heap.size ∨ wr.heap.size + 3 ≤ k)) → _ := fun k hk hn => (hfar k (by omega) hn).trans (hw4.block k hk)
        have hb6 : Below w.heap.size W (w5.setCell ⟨w.heap.size + 1, xn, none⟩ (.slice A1 (pr.length + 1) c1)) := (hw4.mono hlow).trans (hbel w.heap.size (by omega) (fun k hk => by omega))
        have hkf := (keeps_below (B := wr.heap.size) hw4).trans (hkp wr.heap.size)
        refine ⟨(keeps_below hw4).trans (hkp _), ⟨hb6, hfar' _ (by omega) (by omega), hfar' _ (by omega) (by omega)⟩, ?_⟩
        dsimp only
        rw [List.map_append, List.map_singleton, xssTo_new (fun h => hin (HCN.out.2 h))]
        refine ⟨(hfar' _ (by omega) (by omega)).trans HI.out.hgb, (hfar' _ (by omega) (by omega)).trans HI.out.hgo, ⟨vs.set xn (.slice A1 (pr.length + 1) c1), ?_⟩, (hfar' _ (by omega) (by omega)).trans HI.out.hgi, HI.out.low.trans hb6, HI.out.marks.keeps (keeps_below hw4 |>.trans (hkp w.heap.size)) (Nat.le_refl _), by rw [World.size_setCell]; have := hg5.size; omega⟩
        rw [List.map_set, HPR.out]
        exact hrr5
  · obtain rfl : i = l03.length := by omega
    clear hlt
    have hgo : wr.cell? ⟨w.heap.size + 1 + 1, 0, none⟩ = some (.slice (some ⟨w.heap.size + 1, 0, none⟩) l03.length l03.length) := hPS.out.hgo.cell 0 _ rfl
    gi_wp2
    have hP := hPS.out
    obtain ⟨vs, hrr⟩ := hP.rr
    refine Marks.leaves hP.marks _ (fun W => results_tmp rfl _ _ _) (fun W' hs => ?_)
    have hall := xssTo_all (bksOf l03)
    rw [hbl] at hall
    rw [hall] at hrr
    exact ⟨_, vs, rfl, (hrr.quiet (fun k c t z hc => hs.block k (.inr ⟨c, t, z, hc⟩))).mono (fun k hk => by omega), hs.below hP.low (Nat.le_refl _)⟩
end Go.Proofs.Ythgnbeeobhfeaaa.T
end

section
/- Walks: which blocks are reached (the program's). -/
namespace Go.Proofs.Ythgnbeeobhfeaaa.T
open Go.RowKit Go.Shelf Go.Proofs.YthgnbeeobhfeaaaW.PrintWords Go.Proofs.YthgnbeeobhfeaaaW.PrintLast
attribute [local go_sem] Oper.semAt_some

/-! ### Plainly -/
/-- Some blocks are known to be reached (xs); some of them (ls, and those of ex) are still to be looked at. -/
structure RInv (bs : List Bk) (xs : List Bool) (ls : List Int) (ex : Nat → Prop) : Prop where
  len : xs.length = bs.length
  snd : ∀ n, xs[n]? = some true → Rch bs n
  stk : ∀ x ∈ ls, ∃ n : Nat, x = n ∧ xs[n]? = some true
  zero : xs[0]? = some true
  cls : ∀ i, xs[i]? = some true → ¬ ex i → (i : Int) ∈ ls ∨ ∀ n, edge bs i n = true → xs[n]? = some true
theorem RInv.start {bs : List Bk} (h : 0 < bs.length) : RInv bs ((List.replicate bs.length false).set 0 true) [0] (fun _ => False) := by
  have hz : ((List.replicate bs.length false).set 0 true)[0]? = some true := by rw [List.getElem?_set_self (by simpa using h)]
  have only : ∀ n, ((List.replicate bs.length false).set 0 true)[n]? = some true → n = 0 := by
    intro n hn
    rcases Nat.eq_zero_or_pos n with h0 | h0
    · exact h0
    · rw [List.getElem?_set_ne (by omega)] at hn
      have := List.eq_of_mem_replicate (List.mem_of_getElem? hn)
      cases this
  refine ⟨by simp, fun n hn => ?_, fun x hx => ⟨0, by simpa using hx, hz⟩, hz, fun i hi _ => ?_⟩
  · rw [only n hn]; exact .zero h
  · rw [only i hi]; exact .inl (by simp)
theorem RInv.pop {bs : List Bk} {xs : List Bool} {ls : List Int} {at_ : Nat} {ex : Nat → Prop} (h : RInv bs xs (ls ++ [(at_ : Int)]) (fun _ => False)) : RInv bs xs ls (fun i => i = at_) := by
  refine ⟨h.len, h.snd, fun x hx => h.stk x (List.mem_append_left _ hx), h.zero, fun i hi hn => ?_⟩
  rcases h.cls i hi (fun q => q) with h1 | h1
  · rcases List.mem_append.1 h1 with h1 | h1
    · exact .inl h1
    · exact absurd (by have := List.mem_singleton.1 h1; omega) hn
  · exact .inr h1
theorem RInv.mark {bs : List Bk} {xs : List Bool} {ls : List Int} {i n : Nat} {ex : Nat → Prop} (h : RInv bs xs ls ex) (hi : xs[i]? = some true) (he : edge bs i n = true) : RInv bs (xs.set n true) (ls ++ [(n : Int)]) ex := by
  have hn : n < xs.length := by rw [h.len]; exact (edge_lt he).1
  have mono : ∀ k : Nat, xs[k]? = some true → (xs.set n true)[k]? = some true := by
    intro k hk
    by_cases e : n = k
    · subst e; rw [List.getElem?_set_self hn]
    · rw [List.getElem?_set_ne e]; exact hk
  refine ⟨by simp [h.len], fun k hk => ?_, fun x hx => ?_, mono 0 h.zero, fun k hk hx => ?_⟩
  · by_cases e : n = k
    · subst e; exact .step (h.snd i hi) he
    · rw [List.getElem?_set_ne e] at hk; exact h.snd k hk
  · rcases List.mem_append.1 hx with hx | hx
    · obtain ⟨k, e, hk⟩ := h.stk x hx
      exact ⟨k, e, mono k hk⟩
    · exact ⟨n, by simpa using hx, by rw [List.getElem?_set_self hn]⟩
  · by_cases e : n = k
    · subst e; exact .inl (by simp)
    · rw [List.getElem?_set_ne e] at hk
      rcases h.cls k hk hx with h1 | h1
      · exact .inl (List.mem_append_left _ h1)
      · exact .inr (fun j hj => mono j (h1 j hj))
theorem RInv.looked {bs : List Bk} {xs : List Bool} {ls : List Int} {i : Nat} (h : RInv bs xs ls (fun k => k = i)) (hi : ∀ n, edge bs i n = true → xs[n]? = some true) : RInv bs xs ls (fun _ => False) := by
  refine ⟨h.len, h.snd, h.stk, h.zero, fun k hk _ => ?_⟩
  by_cases e : k = i
  · subst e; exact .inr hi
  · exact h.cls k hk e
theorem RInv.done {bs : List Bk} {xs : List Bool} (h : RInv bs xs [] (fun _ => False)) : xs = reachL bs := by
  have all : ∀ n, Rch bs n → xs[n]? = some true := by
    intro n hn
    induction hn with
    | zero _ => exact h.zero
    | step _ he ih =>
      rcases h.cls _ ih (fun q => q) with h1 | h1
      · cases h1
      · exact h1 _ he
  apply List.ext_getElem?
  intro n
  by_cases hn : n < bs.length
  · have hn' : n < xs.length := by rw [h.len]; exact hn
    have hr : (reachL bs)[n]? = some (rchB bs n) := by simp [reachL, hn]
    rw [hr]
    cases hb : xs[n] with
    | true =>
      have h1 : xs[n]? = some true := by rw [List.getElem?_eq_getElem hn', hb]
      rw [h1, rchB_iff.2 (h.snd n h1)]
    | false =>
      have h1 : xs[n]? = some false := by rw [List.getElem?_eq_getElem hn', hb]
      rw [h1]
      cases hq : rchB bs n with
      | false => rfl
      | true =>
        have := all n (rchB_iff.1 hq)
        rw [h1] at this
        cases this
  · rw [List.getElem?_eq_none (by rw [h.len]; omega), List.getElem?_eq_none (by simp [reachL]; omega)]
theorem count_set {xs : List Bool} {n : Nat} (h : xs[n]? = some false) : (xs.set n true).count false + 1 = xs.count false := by
  induction xs generalizing n with
  | nil => cases h
  | cons x xs ih =>
    cases n with
    | zero =>
      obtain rfl : x = false := by simpa using h
      simp
    | succ n =>
      have := ih (n := n) (by simpa using h)
      cases x <;> simp at this ⊢ <;> omega

/-! ### The walk -/
/-- What a world of the walk holds. -/
structure RS (w W : World) (gl hi : Nat) (ok : Nat → Prop) (ds : List Deferred) (bC : Array Value) (m : Nat) (xs : List Bool) (vl : Value) (ls : List Int) : Prop where
  hgb : BoxIs W w.heap.size bC 25
  hgo : BoxIs W (w.heap.size + 2) #[.slice (some ⟨w.heap.size + 1, 0, none⟩) m m] 26
  out : W.ownsRow w.heap.size 4 1 (.slice (some ⟨w.heap.size + 1, 0, none⟩) m m) m (encs Value.bool xs)
  hgl : BoxIs W gl #[vl] 42
  stk : W.ownsRow w.heap.size 3 1 vl ls.length (encs (Value.int .i64) ls)
  okl : ∀ k, vl.ownBlock = some k → ok k
  low : Below w.heap.size w W
  marks : Marks w.heap.size hi W ds
section
variable {w W W' : World} {gl hi : Nat} {ok ok' : Nat → Prop} {ds : List Deferred} {bC : Array Value} {m : Nat} {xs : List Bool} {vl : Value} {ls : List Int}
theorem RS.below (h : RS w W gl hi ok ds bC m xs vl ls) (hb : Below W.heap.size W W') : RS w W' gl hi ok ds bC m xs vl ls :=
  ⟨h.hgb.below hb h.hgb.lt, h.hgo.below hb h.hgo.lt, pw_own_below h.out hb, h.hgl.below hb h.hgl.lt, pw_own_below h.stk hb, h.okl, below_then h.low h.low.size hb, h.marks.grown (grown_of_below hb none) (fun _ e => by cases e)⟩
theorem RS.quiet {B : Nat} {row : Option Nat} (h : RS w W gl hi ok ds bC m xs vl ls) (hg : W.grownBy W' row) (hr : ∀ r, row = some r → B ≤ r ∧ ∃ o : Obj, W.heap[r]? = some o ∧ o.isCells = false) (hB : hi ≤ B) (hw : w.heap.size ≤ B) : RS w W' gl hi ok ds bC m xs vl ls := by
  have q := own_quiet hg hr
  have mv : ∀ {b e n v ys}, W.ownsRow b e 1 v n ys → W'.ownsRow b e 1 v n ys := fun {b e n v ys} ho => own_move ho (fun k hk => by
    obtain ⟨c, hc⟩ := own_typed ho k hk
    exact q k c e (0, 0) hc)
  exact ⟨(q _ _ _ _ h.hgb).trans h.hgb, (q _ _ _ _ h.hgo).trans h.hgo, mv h.out, (q _ _ _ _ h.hgl).trans h.hgl, mv h.stk, h.okl, h.low.grown hg h.low.size (fun k e => Nat.le_trans hw (hr k e).1), h.marks.grown hg (fun k e => .inl (Nat.le_trans hB (hr k e).1))⟩
end
theorem RS.start {w : World} {bC : Array Value} {m : Nat} (h0 : 0 < m) (hm : m ≤ 30) :
    RS w (((((w.alloc (.cells bC 25)).alloc (.cells ((madeCells #[.bool false] m).setIfInBounds 0 (.bool true)) 4)).alloc (.cells #[.slice (some ⟨w.heap.size + 1, 0, none⟩) m m] 26)).alloc (.cells #[.int .i64 0] 3)).alloc (.cells #[.slice (some ⟨w.heap.size + 1 + 1 + 1, 0, none⟩) 1 1] 42))
      (w.heap.size + 1 + 1 + 1 + 1) (w.heap.size + 5) (fun _ => True) [] bC m ((List.replicate m false).set 0 true) (.slice (some ⟨w.heap.size + 1 + 1 + 1, 0, none⟩) 1 1) [0] := by
  have b1 : BoxIs (w.alloc (.cells bC 25)) w.heap.size bC 25 := heap_alloc_new w _
  generalize h1 : w.alloc (.cells bC 25) = w1 at *
  have s1 : w1.heap.size = w.heap.size + 1 := by rw [← h1]; simp
  have l1 : Below w.heap.size w w1 := by rw [← h1]; exact below_alloc (Below.refl _ _) _
  have o2 := World.ownsRow_lit (base := w.heap.size) (e := 4) (size := 1) w1 ((madeCells #[.bool false] m).setIfInBounds 0 (.bool true)) m (by omega) (by simp only [maxLen]; omega) (by simp [size_madeCells])
  have hl : ((madeCells #[Value.bool false] m).setIfInBounds 0 (.bool true)).toList = encs Value.bool ((List.replicate m false).set 0 true) := by
    rw [Array.toList_setIfInBounds]
    simp only [encs, List.map_set, List.map_replicate]
    congr 1
    apply List.ext_getElem
    · simp [madeCells]
    · intro i h1 h2
      simp [madeCells, Nat.mod_one]
  rw [hl, s1] at o2
  generalize h2 : w1.alloc (.cells ((madeCells #[.bool false] m).setIfInBounds 0 (.bool true)) 4) = w2 at *
  have s2 : w2.heap.size = w.heap.size + 2 := by rw [← h2]; simp [s1]
  have l2 : Below w1.heap.size w1 w2 := by rw [← h2]; exact below_alloc (Below.refl _ _) _
  have b3 : BoxIs (w2.alloc (.cells #[.slice (some ⟨w.heap.size + 1, 0, none⟩) m m] 26)) (w.heap.size + 2) #[.slice (some ⟨w.heap.size + 1, 0, none⟩) m m] 26 := by
    have := heap_alloc_new w2 (.cells #[.slice (some ⟨w.heap.size + 1, 0, none⟩) m m] 26)
    rwa [s2] at this
  generalize h3 : w2.alloc (.cells #[.slice (some ⟨w.heap.size + 1, 0, none⟩) m m] 26) = w3 at *
  have s3 : w3.heap.size = w.heap.size + 3 := by rw [← h3]; simp [s2]
  have l3 : Below w2.heap.size w2 w3 := by rw [← h3]; exact below_alloc (Below.refl _ _) _
  have o4 := World.ownsRow_lit (base := w.heap.size) (e := 3) (size := 1) w3 #[.int .i64 0] 1 (by omega) (by simp [maxLen]) (by simp)
  rw [s3] at o4
  generalize h4 : w3.alloc (.cells #[.int .i64 0] 3) = w4 at *
  have s4 : w4.heap.size = w.heap.size + 4 := by rw [← h4]; simp [s3]
  have l4 : Below w3.heap.size w3 w4 := by rw [← h4]; exact below_alloc (Below.refl _ _) _
  have b5 : BoxIs (w4.alloc (.cells #[.slice (some ⟨w.heap.size + 1 + 1 + 1, 0, none⟩) 1 1] 42)) (w.heap.size + 4) #[.slice (some ⟨w.heap.size + 1 + 1 + 1, 0, none⟩) 1 1] 42 := by
    have := heap_alloc_new w4 (.cells #[.slice (some ⟨w.heap.size + 1 + 1 + 1, 0, none⟩) 1 1] 42)
    rwa [s4] at this
  have l5 : Below w4.heap.size w4 (w4.alloc (.cells #[.slice (some ⟨w.heap.size + 1 + 1 + 1, 0, none⟩) 1 1] 42)) := below_alloc (Below.refl _ _) _
  have c5 := l5
  have c4 := l4.trans (l5.mono (by omega))
  have c3 := l3.trans (c4.mono (by omega))
  have c2 := l2.trans (c3.mono (by omega))
  exact ⟨b1.below c2 (by omega), b3.below c4 (by omega), pw_own_below o2 c3, b5, pw_own_below o4 c5, fun _ _ => trivial, l1.trans (c2.mono (by omega)), Marks.nil _ _ _⟩
theorem RS.mono {w W : World} {gl hi hi' : Nat} {ok ok' : Nat → Prop} {ds : List Deferred} {bC : Array Value} {m : Nat} {xs : List Bool} {vl : Value} {ls : List Int} (h : RS w W gl hi ok ds bC m xs vl ls) (hk : ∀ k, k < W.heap.size → ok k → ok' k) (hh : hi ≤ hi') : RS w W gl hi' ok' ds bC m xs vl ls :=
  ⟨h.hgb, h.hgo, h.out, h.hgl, h.stk, fun k e => hk k (own_lt h.stk k e) (h.okl k e), h.low, h.marks.upto hh⟩
theorem RS.vl_ne {w W : World} {gl hi : Nat} {ok : Nat → Prop} {ds : List Deferred} {bC : Array Value} {m : Nat} {xs : List Bool} {vl : Value} {ls : List Int} (h : RS w W gl hi ok ds bC m xs vl ls) (k : Nat) (e : vl.ownBlock = some k) : k ≠ w.heap.size ∧ k ≠ w.heap.size + 1 ∧ k ≠ w.heap.size + 2 ∧ k ≠ gl := by
  obtain ⟨c, hc⟩ := own_typed h.stk k e
  obtain ⟨c', hc'⟩ := own_typed h.out _ rfl
  refine ⟨fun q => ?_, fun q => ?_, fun q => ?_, fun q => ?_⟩ <;> subst q
  · have := h.hgb; unfold BoxIs at this; rw [hc] at this; injection this with this; injection this with _ this; cases this
  · rw [hc] at hc'; injection hc' with this; injection this with _ this; cases this
  · have := h.hgo; unfold BoxIs at this; rw [hc] at this; injection this with this; injection this with _ this; cases this
  · have := h.hgl; unfold BoxIs at this; rw [hc] at this; injection this with this; injection this with _ this; cases this
theorem set_block {W : World} {g j : Nat} {cs : Array Value} {t : TypeId} (h : W.heap[g]? = some (.cells cs t (0, 0))) (u : Value) : (W.setCell ⟨g, j, none⟩ u).heap[g]? = some (.cells (cs.setIfInBounds j u) t (0, 0)) := by
  obtain ⟨hlt, he⟩ := Array.getElem?_eq_some_iff.1 h
  simp [World.setCell, hlt, Array.getElem_modify, he]
theorem BoxIs.set {W : World} {g : Nat} {v : Value} {t : TypeId} (h : BoxIs W g #[v] t) (u : Value) : BoxIs (W.setCell ⟨g, 0, none⟩ u) g #[u] t := by
  have := set_block (j := 0) h u
  exact this
/-- Only block g of cells has been written. -/
theorem set_grown (W : World) (g j : Nat) (u : Value) : W.grownBy (W.setCell ⟨g, j, none⟩ u) (some g) :=
  ⟨rfl, rfl, rfl, by rw [World.size_setCell]; exact Nat.le_refl _, fun k _ hk => Below.heap_setCell W ⟨g, j, none⟩ u k (fun e => hk (by rw [e]))⟩
theorem RS.ne {w W : World} {gl hi : Nat} {ok : Nat → Prop} {ds : List Deferred} {bC : Array Value} {m : Nat} {xs : List Bool} {vl : Value} {ls : List Int} (h : RS w W gl hi ok ds bC m xs vl ls) : gl ≠ w.heap.size ∧ gl ≠ w.heap.size + 1 ∧ gl ≠ w.heap.size + 2 := by
  obtain ⟨c', hc'⟩ := own_typed h.out _ rfl
  have hg := h.hgl
  unfold BoxIs at hg
  refine ⟨fun q => ?_, fun q => ?_, fun q => ?_⟩ <;> subst q
  · have := h.hgb; unfold BoxIs at this; rw [hg] at this; injection this with this; injection this with _ this; cases this
  · rw [hg] at hc'; injection hc' with this; injection this with _ this; cases this
  · have := h.hgo; unfold BoxIs at this; rw [hg] at this; injection this with this; injection this with _ this; cases this
/-- A new stack is laid into its box (its row W1's, where only the elder stack's row has been written). -/
theorem RS.lay {w W W1 : World} {gl hi : Nat} {ok : Nat → Prop} {ds : List Deferred} {bC : Array Value} {m : Nat} {xs : List Bool} {vl v1 : Value} {ls ls1 : List Int} (h : RS w W gl hi ok ds bC m xs vl ls) (hw : w.heap.size ≤ gl)
    (hg : W.grownBy W1 vl.ownBlock) (ho : W1.ownsRow w.heap.size 3 1 v1 ls1.length (encs (Value.int .i64) ls1)) (hat : v1.ownBlock = vl.ownBlock ∨ ∃ b, v1.ownBlock = some b ∧ W.heap.size ≤ b) (hok : ∀ k, W.heap.size ≤ k → ok k) :
    RS w (W1.setCell ⟨gl, 0, none⟩ v1) gl hi ok ds bC m xs v1 ls1 ∧ (∀ k, k < W.heap.size → k ≠ gl → (∀ e, vl.ownBlock = some e → e ≠ k) → (W1.setCell ⟨gl, 0, none⟩ v1).heap[k]? = W.heap[k]?) ∧ Below w.heap.size W (W1.setCell ⟨gl, 0, none⟩ v1) ∧ ∀ B, KeepsFrom B W (W1.setCell ⟨gl, 0, none⟩ v1) := by
  have hne := h.vl_ne
  have hn := h.ne
  have hs := set_grown W1 gl 0 v1
  have far : ∀ k, k < W.heap.size → k ≠ gl → (∀ e, vl.ownBlock = some e → e ≠ k) → (W1.setCell ⟨gl, 0, none⟩ v1).heap[k]? = W.heap[k]? := fun k hk h1 h2 =>
    (hs.block k (by have := hg.size; omega) (fun e => h1 (by injection e))).trans (hg.block k hk (fun e => h2 k e.symm rfl))
  have hgl1 : BoxIs W1 gl #[vl] 42 := (hg.block gl h.hgl.lt (fun e => (hne gl e.symm).2.2.2 rfl)).trans h.hgl
  have hb : Below w.heap.size W (W1.setCell ⟨gl, 0, none⟩ v1) := ⟨hg.os, hg.tape, hg.output, by rw [World.size_setCell]; exact hg.size, fun k hk => far k (by have := h.low.size; omega) (by omega) (fun e he => by have := own_base h.stk e he; omega)⟩
  have hk1 : ∀ B, KeepsFrom B W W1 := fun B => keeps_grown hg (fun k e => by obtain ⟨c, hc⟩ := own_typed h.stk k e; exact ⟨c, 3, (0, 0), hc⟩)
  have hk2 : ∀ B, KeepsFrom B W1 (W1.setCell ⟨gl, 0, none⟩ v1) := fun B => keeps_grown hs (fun k e => by injection e with e; subst e; exact ⟨_, _, _, hgl1⟩)
  have hv1 : ∀ k, v1.ownBlock = some k → k ≠ gl := fun k e => by
    rcases hat with hat | ⟨b, hb, hle⟩
    · exact (hne k (hat ▸ e)).2.2.2
    · rw [hb] at e; injection e with e; have := h.hgl.lt; omega
  refine ⟨⟨(far _ h.hgb.lt (fun e => hn.1 e.symm) (fun e he => (hne e he).1)).trans h.hgb, (far _ h.hgo.lt (fun e => hn.2.2 e.symm) (fun e he => (hne e he).2.2.1)).trans h.hgo, own_move h.out (fun k e => ?_), hgl1.set v1, own_move ho (fun k e => Below.heap_setCell W1 _ _ k (hv1 k e)), fun k e => ?_, h.low.trans hb, h.marks.keeps ((hk1 w.heap.size).trans (hk2 _)) (Nat.le_refl _)⟩, far, hb, fun B => (hk1 B).trans (hk2 B)⟩
  · have e' : k = w.heap.size + 1 := by simpa [Value.ownBlock] using e.symm
    subst e'
    exact far _ (own_lt h.out _ e) (fun q => hn.2.1 q.symm) (fun e he => (hne e he).2.1)
  · rcases hat with hat | ⟨b, hb, hle⟩
    · exact h.okl k (hat ▸ e)
    · rw [hb] at e; injection e with e; exact hok k (by omega)
/-- A block is marked. -/
theorem RS.flag {w W : World} {gl hi : Nat} {ok : Nat → Prop} {ds : List Deferred} {bC : Array Value} {m : Nat} {xs : List Bool} {vl : Value} {ls : List Int} (h : RS w W gl hi ok ds bC m xs vl ls) (n : Nat) (b : Bool) :
    RS w (W.setCell ⟨w.heap.size + 1, n, none⟩ (.bool b)) gl hi ok ds bC m (xs.set n b) vl ls ∧ (∀ k, k < W.heap.size → k ≠ w.heap.size + 1 → (W.setCell ⟨w.heap.size + 1, n, none⟩ (.bool b)).heap[k]? = W.heap[k]?) ∧ Below w.heap.size W (W.setCell ⟨w.heap.size + 1, n, none⟩ (.bool b)) ∧ ∀ B, KeepsFrom B W (W.setCell ⟨w.heap.size + 1, n, none⟩ (.bool b)) := by
  have hne := h.vl_ne
  have hn := h.ne
  have hs := set_grown W (w.heap.size + 1) n (.bool b)
  have far : ∀ k, k < W.heap.size → k ≠ w.heap.size + 1 → (W.setCell ⟨w.heap.size + 1, n, none⟩ (.bool b)).heap[k]? = W.heap[k]? := fun k hk h1 => hs.block k hk (fun e => h1 (by injection e))
  have hk : ∀ B, KeepsFrom B W (W.setCell ⟨w.heap.size + 1, n, none⟩ (.bool b)) := fun B => keeps_grown hs (fun k e => by injection e with e; subst e; obtain ⟨c, hc⟩ := own_typed h.out _ rfl; exact ⟨c, _, _, hc⟩)
  have hb : Below w.heap.size W (W.setCell ⟨w.heap.size + 1, n, none⟩ (.bool b)) := (Below.refl _ _).grown hs h.low.size (fun k e => by injection e with e; omega)
  refine ⟨⟨(far _ h.hgb.lt (by omega)).trans h.hgb, (far _ h.hgo.lt (by omega)).trans h.hgo, ?_, (far _ h.hgl.lt hn.2.1).trans h.hgl, own_move h.stk (fun k e => far k (own_lt h.stk k e) (hne k e).2.1), h.okl, h.low.trans hb, h.marks.keeps (hk w.heap.size) (Nat.le_refl _)⟩, far, hb, hk⟩
  have := (h.out.stored n (.bool b)).1
  rwa [show (encs Value.bool xs).set n (.bool b) = encs Value.bool (xs.set n b) by simp [encs, List.map_set]] at this
theorem RS.rebox {w W : World} {gl hi hi' : Nat} {ok : Nat → Prop} {ds ds' : List Deferred} {bC : Array Value} {m : Nat} {xs : List Bool} {vl : Value} {ls : List Int} (h : RS w W gl hi ok ds bC m xs vl ls) (hm : Marks w.heap.size hi' W ds') : RS w (W.alloc (.cells #[vl] 42)) W.heap.size hi' (fun _ => True) ds' bC m xs vl ls := by
  have hb : Below W.heap.size W (W.alloc (.cells #[vl] 42)) := below_alloc (Below.refl _ _) _
  exact ⟨h.hgb.below hb h.hgb.lt, h.hgo.below hb h.hgo.lt, pw_own_below h.out hb, heap_alloc_new W _, pw_own_below h.stk hb, fun _ _ => trivial, below_then h.low h.low.size hb, hm.grown (grown_of_below hb none) (fun _ e => by cases e)⟩
theorem frozen_box {W : World} {g : Nat} {cs : Array Value} {t : TypeId} (h : BoxIs W g cs t) (j : Nat := 0) : W.frozen? ⟨g, j, none⟩ = false := by
  unfold BoxIs at h
  simp [World.frozen?, h]
theorem nil_or_snoc {α : Type} (l : List α) : l = [] ∨ ∃ l' x, l = l' ++ [x] := by
  rcases List.eq_nil_or_concat l with h | ⟨l', x, h⟩
  · exact .inl h
  · exact .inr ⟨l', x, by simpa using h⟩
theorem wrapn (n : Nat) (h : n ≤ 1000000) : wrap64 (n : Int) = n := by unfold wrap64; omega

set_option maxRecDepth 100000 in
set_option maxHeartbeats 4000000 in
theorem reach_any (s : ByteArray) (p : Int) (A2 : Option Addr) (n2 c2 : Nat) (A3 : Option Addr) (c3 : Nat) (l03 : List S58) (w : World) (hC : Kd.C k58 w A3 l03.length l03) (hf : fewB l03 = true) :
    Calls Try.prog 20 #[bodyV s p A2 n2 c2 A3 l03.length c3] w fun e w' => ∃ v, e = .returned v ∧ w'.ownsRow w.heap.size 4 1 v (reachL (bksOf l03)).length (encs Value.bool (reachL (bksOf l03))) ∧ Below w.heap.size w w' := by
  have hm := (fewB_at hf).1
  have hmk := run_make_row' (P := Try.prog) 26 4 (.bool false) 1 Try.underlying26 info4 rfl .i64 .i64 l03.length (by omega) (by omega)
  have hbl := bksOf_length l03
  refine (callsIn_wide (n := 9)).1 ?_
  refine callsIn_of_wp_marks Try.func20 rfl trivial ?_ rfl
  simp only [Try.ntmps20, List.size_toArray, List.length_cons, List.length_nil, Nat.reduceAdd, Nat.reduceSub, Array.replicate_succ, Array.replicate_zero, List.push_toArray, List.append_toArray, List.nil_append, List.cons_append]
  have HF := Lib.hid hf
  have HC := Lib.hid hC
  clear hf hC
  by_cases hm0 : l03.length = 0
  · obtain rfl : l03 = [] := List.eq_nil_of_length_eq_zero hm0
    have hmk0 : ∀ W : World, (Instr.makeSlice 26 (.int .i64 0) (.int .i64 0)).run Try.prog W = .ok (.slice (some ⟨W.heap.size, 0, none⟩) 0 0) (W.alloc (.cells (madeCells #[.bool false] 0) 4)) := fun W => run_make_row' (P := Try.prog) 26 4 (.bool false) 1 Try.underlying26 info4 rfl .i64 .i64 0 (by omega) (by omega) W
    clear hmk
    gi_wp2
    refine Marks.leaves (lo := w.heap.size) (hi := w.heap.size) (Marks.nil _ _ _) _ (fun W => results_tmp rfl _ _ _) (fun W' hs => ?_)
    refine ⟨_, rfl, ?_, hs.below (below_alloc (below_alloc (below_alloc (Below.refl _ _) _) _) _) (Nat.le_refl _)⟩
    refine hs.own ?_
    have o2 := World.ownsRow_lit (base := w.heap.size) (e := 4) (size := 1) (w.alloc (.cells (bodyC s p A2 n2 c2 A3 0 c3) 25)) (madeCells #[.bool false] 0) 0 (by simp) (by simp [maxLen]) (by simp [size_madeCells])
    rw [World.size_alloc] at o2
    refine pw_own_below (w := (w.alloc (.cells (bodyC s p A2 n2 c2 A3 0 c3) 25)).alloc (.cells (madeCells #[.bool false] 0) 4)) ?_ (below_alloc (Below.refl _ _) _)
    have hl : (madeCells #[Value.bool false] 0).toList = [] := by simp [madeCells]
    rw [hl] at o2
    simpa [reachL, bksOf, encs] using o2
  · have h0 : ((l03.length : Int) == 0) = false := by
      rw [beq_eq_false_iff_ne]
      omega
    have h1 : (0 : Int) < (l03.length : Int) := by omega
    have hz : (madeCells #[Value.bool false] l03.length)[0]? = some (.bool false) := by
      rw [Array.getElem?_eq_getElem (by rw [size_madeCells]; omega)]
      simp [madeCells]
    gi_wp2
    clear h0 h1 hz hmk
    refine wpIn_loop_ghost_k (fun N_ a' wr => ∃ (u4 u5 u6 u18 u19 u20 u21 u22 u23 u24 u25 u26 u27 u28 u29 u30 u31 u32 u33 u34 u35 u36 u37 u38 u39 u40 u41 u42 u43 u44 u45 u46 u47 u48 : Value) (ds : List Deferred), a' = { tmps := #[bodyV s p A2 n2 c2 A3 l03.length c3, Value.pointer (some ⟨w.heap.size, 0, none⟩), Value.slice none 0 0, Value.pointer (some ⟨w.heap.size + 1 + 1, 0, none⟩), u4, u5, u6, Value.pointer (some ⟨w.heap.size, 3, none⟩), Value.slice A3 l03.length c3, Value.int IntKind.i64 l03.length, Value.slice (some ⟨w.heap.size + 1, 0, none⟩) l03.length l03.length, Value.slice (some ⟨w.heap.size + 1, 0, none⟩) l03.length l03.length, Value.int IntKind.i64 l03.length, Value.bool false, undef, Value.slice (some ⟨w.heap.size + 1, 0, none⟩) l03.length l03.length, Value.pointer (some ⟨w.heap.size + 1, 0, none⟩), Value.slice (some ⟨w.heap.size + 1 + 1 + 1, 0, none⟩) 1 1, u18, u19, u20, u21, u22, u23, u24, u25, u26, u27, u28, u29, u30, u31, u32, u33, u34, u35, u36, u37, u38, u39, u40, u41, u42, u43, u44, u45, u46, u47, u48, undef], defers := ds } ∧ ∃ (gl : Nat) (xs : List Bool) (vl : Value) (ls : List Int), u4 = .pointer (some ⟨gl, 0, none⟩) ∧ N_ = 2 * xs.count false + ls.length ∧ N_ ≤ 1000 ∧ w.heap.size + 3 ≤ gl ∧ Hid (RInv (bksOf l03) xs ls (fun _ => False)) ∧ Hid (RS w wr gl wr.heap.size (fun _ => True) ds (bodyC s p A2 n2 c2 A3 l03.length c3) l03.length xs vl ls)) (2 * ((List.replicate l03.length false).set 0 true).count false + 1) ?_ ?_
    · refine ⟨_, _, _, _, _, _, _, _, _, _, _, _, _, _, _, _, _, _, _, _, _, _, _, _, _, _, _, _, _, _, _, _, _, _, _, rfl, ?_⟩
      refine ⟨w.heap.size + 1 + 1 + 1 + 1, (List.replicate l03.length false).set 0 true, .slice (some ⟨w.heap.size + 1 + 1 + 1, 0, none⟩) 1 1, [0], rfl, rfl, ?_, by omega, Lib.hid ?_, Lib.hid ?_⟩
      · have h1 := List.count_le_length (a := false) (l := (List.replicate l03.length false).set 0 true); rw [List.length_set, List.length_replicate] at h1; omega
      · have := RInv.start (bs := bksOf l03) (by omega); rwa [hbl] at this
      · exact (RS.start (by omega) hm).mono (fun _ _ h => h) (by simp)
    rintro N_ a' wr ⟨u4, u5, u6, u18, u19, u20, u21, u22, u23, u24, u25, u26, u27, u28, u29, u30, u31, u32, u33, u34, u35, u36, u37, u38, u39, u40, u41, u42, u43, u44, u45, u46, u47, u48, ds, rfl, hrel⟩ J_ K_ hJ hK
    obtain ⟨gl, xs, vl, ls, rfl, rfl, hN, hgl, hR, hS⟩ := hrel
    rcases nil_or_snoc ls with rfl | ⟨ls, x, rfl⟩
    · obtain ⟨A, c, rfl⟩ := own_slice hS.out.stk
      have hcl : wr.cell? ⟨gl, 0, none⟩ = some (.slice A 0 c) := hS.out.hgl.cell 0 _ rfl
      have hgo : wr.cell? ⟨w.heap.size + 1 + 1, 0, none⟩ = some (.slice (some ⟨w.heap.size + 1, 0, none⟩) l03.length l03.length) := hS.out.hgo.cell 0 _ rfl
      clear hJ hK
      gi_wp2
      refine Marks.leaves hS.out.marks _ (fun W => results_tmp rfl _ _ _) (fun W' hs => ?_)
      refine ⟨_, rfl, hs.own ?_, hs.below hS.out.low (Nat.le_refl _)⟩
      rw [← hR.out.done]
      have hx := hR.out.len
      rw [hbl] at hx
      rw [hx]
      exact hS.out.out
    · obtain ⟨atn, rfl, hat⟩ := hR.out.stk x (by simp)
      rw [List.length_append, List.length_singleton] at hN
      have hatl : atn < l03.length := by
        have := (List.getElem?_eq_some_iff.1 hat).1
        have := hR.out.len
        omega
      obtain ⟨gs, cap, rfl, _, _⟩ := hS.out.stk.form (by rw [List.length_append]; simp)
      have hlen : (ls ++ [(atn : Int)]).length = ls.length + 1 := by simp
      have hstk := hS.out.stk
      rw [hlen] at hstk
      rw [hlen] at hS
      have hcap : ls.length + 1 ≤ cap := by
        rcases hstk.2 with ⟨h, _⟩ | ⟨g', cap', cur, h, _, _, h2, _⟩
        · cases h
        · injection h with _ _ h; omega
      have hcl : wr.cell? ⟨gl, 0, none⟩ = some (.slice (some ⟨gs, 0, none⟩) (ls.length + 1) cap) := hS.out.hgl.cell 0 _ rfl
      have hce : wr.cell? ⟨gs, ls.length, none⟩ = some (.int .i64 atn) := by
        have := hstk.cells (g := gs) rfl ls.length (.int .i64 atn) (by simp [encs])
        rwa [add_plain] at this
      have hfz : wr.frozen? ⟨gl, 0, none⟩ = false := by
        have := hS.out.hgl
        unfold BoxIs at this
        simp [World.frozen?, this]
      have hln : ls.length ≤ 1000 := by omega
      have hsl : ∀ W : World, (Instr.slice 42 (.slice (some ⟨gs, 0, none⟩) (ls.length + 1) cap) none (some (.int .i64 (ls.length : Int))) none).run Try.prog W = .ok (.slice (some ⟨gs, 0, none⟩) ls.length cap) W := by
        intro W
        obtain ⟨i3, hi3, hz3⟩ := Option.map_eq_some_iff.1 info3
        have := (print_take_of (P := Try.prog) (Value.int .i64) (0 : Int) 42 3 .i64 Try.underlying42 hi3 (by simp only [Prod.mk.injEq] at hz3; exact hz3.2.1) (some ⟨gs, 0, none⟩) cap (ls ++ [(atn : Int)]) (ls.length : Int) (by omega) (by rw [hlen]; omega) (by simpa using hcap)).1 W
        simpa using this
      have hq1 : (0 : Int) < (ls.length : Int) + 1 := Int.lt_add_one_of_le (Int.natCast_nonneg _)
      have hq2 : (0 : Int) ≤ (ls.length : Int) := Int.natCast_nonneg _
      have hq3 : (ls.length : Int) < (ls.length : Int) + 1 := Int.lt_add_one_of_le (Int.le_refl _)
      have hln6 : ls.length ≤ 1000000 := Nat.le_trans hln (by decide)
      have hw4 := Lib.hid (wrapn ls.length hln6)
      have hw3 : Hid (wrap64 ((ls.length : Int) + 1 - 1) = ls.length) := Lib.hid (by rw [show (ls.length : Int) + 1 - 1 = ls.length by omega]; exact wrapn _ hln6)
      have hlay := hS.out.lay (W1 := wr) (v1 := .slice (some ⟨gs, 0, none⟩) ls.length cap) (ls1 := ls) (by omega) (World.grownBy.refl wr _) (by have := own_take hstk (show ls.length ≤ ls.length + 1 by omega); simpa [encs] using this) (.inl rfl) (fun _ _ => trivial)
      have hR1 := Lib.hid (hR.out.pop (ex := fun _ => False))
      have hS1 := Lib.hid hlay.1
      have hcb : ∀ j v, (bodyC s p A2 n2 c2 A3 l03.length c3)[j]? = some v → (wr.setCell ⟨gl, 0, none⟩ (.slice (some ⟨gs, 0, none⟩) ls.length cap)).cell? ⟨w.heap.size, j, none⟩ = some v := fun j v hv => hlay.1.hgb.cell j v hv
      have hcb0 := hcb 0 _ rfl
      have hcb1 := hcb 1 _ rfl
      have hcb2 := hcb 2 _ rfl
      have hcb3 := hcb 3 _ rfl
      clear hcb hlay hstk hR hS
      have hw2 : Value.int .i64 (wrap64 (ls.length : Int)) = .int .i64 (ls.length : Int) := congrArg _ hw4.out
      gi_wp2
      clear hw2 hw3 hw4 hcl hce hfz hcb0 hcb1 hcb2 hcb3
      refine ⟨trivial, (callsIn_wide.2 (to_any s p A2 n2 c2 A3 l03.length c3 atn _)).mono ?_⟩
      rintro e w' ⟨rfl, rfl⟩
      gi_wp2
      generalize hwm : wr.setCell ⟨gl, 0, none⟩ (.slice (some ⟨gs, 0, none⟩) ls.length cap) = wm at *
      have hszm : wm.heap.size = wr.heap.size := by rw [← hwm, World.size_setCell]
      rw [← hszm] at hS1
      obtain ⟨W0, hW0⟩ : ∃ W0, W0 = ((wm.alloc (.cells (bodyC s p A2 n2 c2 A3 l03.length c3) 25)).alloc (.cells #[.int .i64 atn] 3)) := ⟨_, rfl⟩
      have hsz0 : W0.heap.size = wm.heap.size + 2 := by rw [hW0]; simp
      have hbW0 : Below wm.heap.size wm W0 := by rw [hW0]; exact below_alloc (below_alloc (Below.refl _ _) _) _
      have hS0 : RS w W0 gl wm.heap.size (fun k => k < wm.heap.size ∨ wm.heap.size + 2 ≤ k) ds (bodyC s p A2 n2 c2 A3 l03.length c3) l03.length xs (.slice (some ⟨gs, 0, none⟩) ls.length cap) ls := (hS1.out.mono (fun k hk _ => .inl hk) (Nat.le_refl _)).below hbW0
      have hT : ToAt W0 w.heap.size wm.heap.size (wm.heap.size + 1) s p A2 n2 c2 A3 c3 l03 atn := by
        refine ⟨?_, ?_, w, hS0.low, Nat.le_refl _, HC.out⟩
        · rw [hW0]
          have h1 : BoxIs (wm.alloc (.cells (bodyC s p A2 n2 c2 A3 l03.length c3) 25)) wm.heap.size (bodyC s p A2 n2 c2 A3 l03.length c3) 25 := heap_alloc_new _ _
          exact h1.below (below_alloc (Below.refl _ _) _) h1.lt
        · rw [hW0]
          have := heap_alloc_new (wm.alloc (.cells (bodyC s p A2 n2 c2 A3 l03.length c3) 25)) (.cells #[.int .i64 atn] 3)
          rwa [World.size_alloc] at this
      have hwm1 := hS1.out.low.size
      have hglm := hS1.out.hgl.lt
      rw [← hszm, ← hW0]
      clear hW0 hS1 hwm hsl hszm
      have hfew := (fewB_at HF.out).2
      have htz : (rd_T58 l03 atn).f1.f5.length ≤ 30 := by
        have hmem : rd_T58 l03 atn ∈ l03 := by
          have e : rd_T58 l03 atn = l03[atn] := by simp [rd_T58, List.getElem?_eq_getElem hatl, List.getD_eq_getElem?_getD]
          rw [e]; exact List.getElem_mem hatl
        exact (hfew _ hmem).2
      refine wpIn_rangeFunc_ownG rfl (by decide) (gf := 53) (lb := #[.pointer (some ⟨wm.heap.size, 0, none⟩), .pointer (some ⟨wm.heap.size + 1, 0, none⟩)]) rfl trivial (enters_of Try.func53 (by kernel_rfl) rfl)
        (to_stops 8 (by decide) w.heap.size wm.heap.size (wm.heap.size + 1) s p A2 n2 c2 A3 c3 l03 atn hatl (by omega) (by omega) W0 (by omega) (by omega) (by omega) hT) kp3_t (kp3_b (by omega) (by omega) (by omega)) (Below.refl _ _) (fun _ => rfl)
        (fun pre W => ∃ (xs' : List Bool) (vl : Value) (ls' : List Int), RS w W gl wm.heap.size (fun k => k < wm.heap.size ∨ wm.heap.size + 2 ≤ k) ds (bodyC s p A2 n2 c2 A3 l03.length c3) l03.length xs' vl ls' ∧ RInv (bksOf l03) xs' ls' (fun i => i = atn) ∧ (∀ x ∈ pre, xs'[x.1.toNat]? = some true) ∧ xs'[atn]? = some true ∧ 2 * xs'.count false + ls'.length < 2 * xs.count false + (ls.length + 1) ∧ wm.heap.size + 2 ≤ W.heap.size)
        (fun _ _ _ => False) ?hI (fun _ _ _ _ _ hs _ _ => hs) ⟨xs, _, ls, hS0, hR1.out, (fun _ h => by cases h), hat, by omega, by omega⟩
        (fun x => { tmps := #[bodyV s p A2 n2 c2 A3 l03.length c3, .pointer (some ⟨w.heap.size, 0, none⟩), .slice none 0 0, .pointer (some ⟨w.heap.size + 1 + 1, 0, none⟩), .pointer (some ⟨gl, 0, none⟩), .int .i64 atn, .int .i64 x.1, .pointer (some ⟨w.heap.size, 3, none⟩), .slice A3 l03.length c3, .int .i64 l03.length, .slice (some ⟨w.heap.size + 1, 0, none⟩) l03.length l03.length, .slice (some ⟨w.heap.size + 1, 0, none⟩) l03.length l03.length, .int .i64 l03.length, .bool false, undef, .slice (some ⟨w.heap.size + 1, 0, none⟩) l03.length l03.length, .pointer (some ⟨w.heap.size + 1, 0, none⟩), .slice (some ⟨w.heap.size + 1 + 1 + 1, 0, none⟩) 1 1, Value.slice (some ⟨gs, 0, none⟩) (ls.length + 1) cap, .int .i64 ((ls.length : Int) + 1), .bool true, Value.slice (some ⟨gs, 0, none⟩) (ls.length + 1) cap, Value.slice (some ⟨gs, 0, none⟩) (ls.length + 1) cap, .int .i64 ((ls.length : Int) + 1), .int .i64 (ls.length : Int), .pointer (some ⟨gs, ls.length, none⟩), .int .i64 atn, Value.slice (some ⟨gs, 0, none⟩) (ls.length + 1) cap, Value.slice (some ⟨gs, 0, none⟩) (ls.length + 1) cap, .int .i64 ((ls.length : Int) + 1), .int .i64 (ls.length : Int), .slice (some ⟨gs, 0, none⟩) ls.length cap, bodyV s p A2 n2 c2 A3 l03.length c3, .int .i64 atn, .func (.func 53) #[] #[.pointer (some ⟨wm.heap.size, 0, none⟩), .pointer (some ⟨wm.heap.size + 1, 0, none⟩)], .int .i64 x.1, u36, u37, u38, u39, u40, u41, u42, u43, u44, u45, u46, u47, u48, undef], defers := [] }) ?assign ?body ?done ?stop
      case hI =>
        rintro pre W W' row ⟨xs', vl, ls', h1, h2, h3, h4, h5, h6⟩ hg hr
        exact ⟨xs', vl, ls', h1.quiet hg hr (by omega) (by omega), h2, h3, h4, h5, Nat.le_trans h6 hg.size⟩
      case assign =>
        intro l x W K hK
        gi_wp2
        exact hK
      case stop =>
        rintro D c pre W _ _ h _
        exact h.elim
      case done =>
        rintro D ys W hD hS' ⟨xs', vl, ls', h1, h2, h3, h4, h5, h6⟩ hK'
        have h2' : RInv (bksOf l03) xs' ls' (fun _ => False) := h2.looked (fun n hn => by
          have h7 := edge_iff.1 hn
          rw [← hS'] at h7
          obtain ⟨x, hx, hxe⟩ := List.mem_map.1 h7
          have := h3 x hx
          rw [hxe, Int.toNat_natCast] at this
          exact this)
        obtain ⟨A, c, rfl⟩ := own_slice h1.stk
        have hbg : w.heap.size + 3 ≤ W.heap.size := by omega
        have hrb := h1.rebox (h1.marks.cons (D := D) (hi' := W.heap.size) (by omega) (by omega) (Array.getElem?_eq_some_iff.1 hK').1 hK')
        have hcl : W.cell? ⟨gl, 0, none⟩ = some (.slice A ls'.length c) := h1.hgl.cell 0 _ rfl
        have HH : Hid (2 * xs'.count false + ls'.length < 2 * xs.count false + (ls.length + 1)) := Lib.hid h5
        clear h1 h2 h3 h4 h6 hS0 hT hR1 hat hK'
        gi_wp2
        refine ⟨2 * xs'.count false + ls'.length, by rw [hlen]; exact h5, hJ _ _ _ ⟨_, _, _, _, _, _, _, _, _, _, _, _, _, _, _, _, _, _, _, _, _, _, _, _, _, _, _, _, _, _, _, _, _, _, _, rfl, W.heap.size, xs', .slice A ls'.length c, ls', rfl, rfl, by rw [hlen] at *; omega, hbg, Lib.hid h2', Lib.hid (hrb.mono (fun _ _ h => h) (by simp))⟩⟩
      case body =>
        rintro l pre ⟨x, hx⟩ W ⟨xs', vl, ls', h1, h2, h3, h4, h5, h6⟩ hpl
        have hxm := mem_succI hx
        obtain ⟨xn, rfl⟩ := Int.eq_ofNat_of_zero_le hxm.1
        rw [hbl] at hxm
        have hxl : xn < l03.length := by omega
        have hl' := h2.len
        obtain ⟨b, hb⟩ : ∃ b, xs'[xn]? = some b := ⟨_, List.getElem?_eq_getElem (by omega)⟩
        have hgo : W.cell? ⟨w.heap.size + 1 + 1, 0, none⟩ = some (.slice (some ⟨w.heap.size + 1, 0, none⟩) l03.length l03.length) := h1.hgo.cell 0 _ rfl
        have hxc : W.cell? ⟨w.heap.size + 1, xn, none⟩ = some (.bool b) := by
          have := h1.out.cells (g := w.heap.size + 1) rfl xn (.bool b) (by simp [encs, hb])
          rwa [add_plain] at this
        have q0 : ((0 : Int) ≤ (xn : Int)) = True := eq_true (by omega)
        have q1 : ((xn : Int) < (l03.length : Int)) = True := eq_true (by omega)
        have H1 := Lib.hid h1
        have H2 := Lib.hid h2
        have H3 := Lib.hid h3
        clear h1 h2 h3 hS0 hT hR1
        cases b with
        | true =>
          gi_wp2
          refine ⟨KeepsFrom.refl _ _, Kp3.refl _ _ _ _, xs', vl, ls', H1.out, H2.out, fun x hx => ?_, h4, h5, h6⟩
          rcases List.mem_append.1 hx with hx | hx
          · exact H3.out x hx
          · obtain rfl := List.mem_singleton.1 hx
            exact hb
        | false =>
          obtain ⟨hf1, hf2, hf3, hf4⟩ := H1.out.flag xn true
          have hfz : W.frozen? ⟨w.heap.size + 1, xn, none⟩ = false := by
            obtain ⟨c', hc'⟩ := own_typed H1.out.out _ rfl
            simp [World.frozen?, hc']
          obtain ⟨A, c, rfl⟩ := own_slice H1.out.stk
          have hcl : (W.setCell ⟨w.heap.size + 1, xn, none⟩ (.bool true)).cell? ⟨gl, 0, none⟩ = some (.slice A ls'.length c) := hf1.hgl.cell 0 _ rfl
          have hszf := Lib.hid (World.size_setCell W ⟨w.heap.size + 1, xn, none⟩ (.bool true))
          have HF1 := Lib.hid hf1
          have HF2 := Lib.hid hf2
          have HF3 := Lib.hid hf3
          have HF4 := Lib.hid hf4
          have hbase := H1.out.low.size
          have hxat : edge (bksOf l03) atn xn = true := edge_iff.2 hx
          clear hf1 hf2 hf3 hf4
          generalize hWf : W.setCell ⟨w.heap.size + 1, xn, none⟩ (.bool true) = Wf at *
          gi_wp2_with (gi_at_builtin; refine append_in (W := Wf) w.heap.size rfl (.tmp 44) (.tmp 46) 42 3 (.int .i64 0) 8 rfl Try.underlying42 info3 rfl (by decide) (.slice A ls'.length c) (encs (Value.int .i64) ls') (.int .i64 xn) rfl rfl rfl (by rw [encs_length]; exact HF1.out.stk) HF1.out.low.size (by rw [encs_length]; omega) ?_; intro v1 w5 ho5 hg5 hat5; rw [encs_length] at ho5; obtain ⟨A1, c1, rfl⟩ := own_slice ho5; have hfz5 : w5.frozen? ⟨gl, 0, none⟩ = false := (frozen_box ((hg5.block gl HF1.out.hgl.lt (fun e => (HF1.out.vl_ne gl e.symm).2.2.2 rfl)).trans HF1.out.hgl)); have hcl5 : w5.cell? ⟨gl, 0, none⟩ = some (.slice A ls'.length c) := BoxIs.cell ((hg5.block gl HF1.out.hgl.lt (fun e => (HF1.out.vl_ne gl e.symm).2.2.2 rfl)).trans HF1.out.hgl) 0 _ rfl; have HO5 := Lib.hid ho5; have HG5 := Lib.hid hg5; have HAT5 := Lib.hid hat5; clear ho5 hg5 hat5)
          obtain ⟨g1, g2, g3, g4⟩ := HF1.out.lay (W1 := w5) (v1 := .slice A1 (ls'.length + 1) c1) (ls1 := ls' ++ [(xn : Int)]) (by omega) HG5.out (by rw [List.length_append]; simpa [encs] using HO5.out) HAT5.out (fun k hk => .inr (by rw [hszf.out] at hk; omega))
          have hb6 := HF3.out.trans g3
          have hne := HF1.out.vl_ne
          have hfar : ∀ k, k < W.heap.size → k ≠ w.heap.size + 1 → k ≠ gl → ¬ (k < wm.heap.size ∨ wm.heap.size + 2 ≤ k) → (w5.setCell ⟨gl, 0, none⟩ (.slice A1 (ls'.length + 1) c1)).heap[k]? = W.heap[k]? := fun k hk h1 h2 h3 =>
            (g2 k (by rw [hszf.out]; exact hk) h2 (fun e he q => h3 (q ▸ HF1.out.okl e he))).trans (HF2.out k hk h1)
          have hcnt := count_set hb
          refine ⟨(HF4.out _).trans (g4 _), ⟨hb6, hfar _ (by omega) (by omega) (by omega) (by omega), hfar _ (by omega) (by omega) (by omega) (by omega)⟩, xs'.set xn true, _, ls' ++ [(xn : Int)], g1, H2.out.mark h4 hxat, fun x hx => ?_, ?_, ?_, ?_⟩
          · by_cases hx0 : x.1.toNat = xn
            · rw [hx0, List.getElem?_set_self (by omega)]
            · rw [List.getElem?_set_ne (fun e => hx0 e.symm)]
              rcases List.mem_append.1 hx with hx | hx
              · exact H3.out x hx
              · exact absurd (by rw [List.mem_singleton.1 hx]; rfl) hx0
          · by_cases hx0 : xn = atn
            · rw [hx0, List.getElem?_set_self (by omega)]
            · rw [List.getElem?_set_ne hx0]
              exact h4
          · rw [List.length_append, List.length_singleton]
            omega
          · have := hb6.size
            omega
end Go.Proofs.Ythgnbeeobhfeaaa.T
end

section
/- Walks: a slice of n times a flag (slices.Repeat), and what lies below it (bits.Mul of 1); clones. -/
namespace Go.Proofs.Ythgnbeeobhfeaaa.T
open Go.RowKit Go.Shelf Go.Proofs.YthgnbeeobhfeaaaW.PrintWords Go.Proofs.YthgnbeeobhfeaaaW.PrintLast

theorem blk_frozen' {w : World} {g : Nat} {t : TypeId} {cs : Array Value} (h : w.heap[g]? = some (.cells cs t (0, 0))) (i : Nat) : w.frozen? ⟨g, i, none⟩ = false := by simp [World.frozen?, h]
def splice {α : Type} (l : List α) (at_ : Nat) (m : List α) : List α := l.take at_ ++ (m ++ l.drop (at_ + m.length))
theorem splice_cons {α : Type} (l : List α) (o : Nat) (v : α) (r : List α) (h : o < l.length) : splice (l.set o v) (o + 1) r = splice l o (v :: r) := by
  have e1 : (l.set o v).take (o + 1) = l.take o ++ [v] := by
    rw [List.take_succ_eq_append_getElem (by simpa using h), List.take_set_of_le (Nat.le_refl o)]
    simp
  have e2 : (l.set o v).drop (o + 1 + r.length) = l.drop (o + (v :: r).length) := by
    rw [List.drop_set_of_lt (by omega)]
    simp [Nat.add_assoc, Nat.add_comm 1]
  simp [splice, e1, e2]
theorem setCells_heap (g : Nat) (t : TypeId) : ∀ (vs : List Value) (o : Nat) (l : List Value) (w : World), w.heap[g]? = some (.cells l.toArray t (0, 0)) → o + vs.length ≤ l.length →
    (w.setCells g o vs).heap[g]? = some (.cells (splice l o vs).toArray t (0, 0))
  | [], o, l, w, h, _ => by
    rw [World.setCells, h, splice]
    simp
  | v :: r, o, l, w, h, hl => by
    simp at hl
    have h1 := set_block (j := o) h v
    have h2 := setCells_heap g t r (o + 1) (l.set o v) (w.setCell ⟨g, o, none⟩ v) (by simpa using h1) (by simp; omega)
    rw [World.setCells, h2, splice_cons _ _ _ _ (by omega)]
theorem setCells_grown (g : Nat) : ∀ (vs : List Value) (o : Nat) {a b : World}, a.grownBy b (some g) → a.grownBy (b.setCells g o vs) (some g)
  | [], _, _, _, h => h
  | v :: r, o, _, b, h => setCells_grown g r (o + 1) (World.grownBy.trans h (set_grown b g o v))

theorem maskN (a : Nat) (ha : a < 18446744073709551616) : bits .and .u64 (a : Int) 4294967295 = ((a % 4294967296 : Nat) : Int) := by
  have h := bits_and_u64_nat a 4294967295 ha (by omega)
  have e : a &&& 4294967295 = a % 4294967296 := Nat.and_two_pow_sub_one_eq_mod a 32
  rw [e] at h
  exact h
theorem maskS (a : Nat) (ha : a < 4294967296) : bits .and .u64 (a : Int) 4294967295 = (a : Int) := by
  rw [maskN a (by omega), Nat.mod_eq_of_lt ha]
theorem mask1 : bits .and .u64 1 4294967295 = 1 := by decide
theorem mask0 : bits .and .u64 0 4294967295 = 0 := by decide
theorem mul64_one (W : World) (n : Nat) (hn : n ≤ 1048576) :
    Calls Try.prog 60 #[.int .u64 1, .int .u64 n] W fun e W' => e = .returned (.tuple #[.int .u64 0, .int .u64 n]) ∧ W' = W := by
  have m1 := maskS n (by omega)
  have m2 : (n : Int) / 4294967296 = 0 := by omega
  have m3 := mask1
  have m4 := mask0
  go_enter Try.func60, Try.ntmps60
  go_wp2
  go_ret2
  exact ⟨rfl, rfl⟩
theorem mul_one (W : World) (n : Nat) (hn : n ≤ 1048576) :
    Calls Try.prog 58 #[.int .u64 1, .int .u64 n] W fun e W' => e = .returned (.tuple #[.int .u64 0, .int .u64 n]) ∧ W' = W := by
  go_enter Try.func58, Try.ntmps58
  go_wp2_with fail
  refine (mul64_one _ n hn).mono ?_
  rintro e W' ⟨rfl, rfl⟩
  go_wp2
  go_ret2
  exact ⟨rfl, rfl⟩

def part (b : Bool) (m n : Nat) : List Bool := List.replicate m b ++ List.replicate (n - m) false
theorem part_grow (b : Bool) (m k n : Nat) (h : m + k ≤ n) : splice (encs Value.bool (part b m n)) m (List.replicate k (.bool b)) = encs Value.bool (part b (m + k) n) := by
  have e : n - m = k + (n - (m + k)) := by omega
  simp only [part, encs, splice, e, List.map_append, List.map_replicate, List.length_replicate]
  rw [List.take_append_of_le_length (by simp), List.drop_append, ← List.append_assoc]
  simp
theorem copyB (b : Bool) (w : World) (ty : TypeId) (g o dLen dCap : Nat) (a : Addr) (sLen sCap k : Nat) (hk : k = Nat.min sLen dLen)
    (hsrc : ∀ j, j < k → w.cell? (a.add j) = some (.bool b)) (hc : ∀ j, j < k → (w.cell? ⟨g, o + j, none⟩).isSome = true) (hf : ∀ j, j < k → w.frozen? ⟨g, o + j, none⟩ = false) :
    (Builtin.copy_ #[26, 26] ty #[.slice (some ⟨g, o, none⟩) dLen dCap, .slice (some a) sLen sCap]).run Try.prog w = .ok (goInt k) (w.setCells g o (List.replicate k (.bool b))) := by
  have := run_copy_cells (P := Try.prog) w 26 26 ty 4 g o dLen dCap a sLen sCap (List.replicate k (.bool b)) Try.underlying26 (by kernel_rfl) (by simpa using hk) (fun j v hj => by
    rw [List.getElem?_replicate] at hj
    split at hj
    · injection hj with hj; subst hj; exact hsrc j ‹_›
    · cases hj) (by simpa using hc) (by simpa using hf) (fun v hv => by rw [List.eq_of_mem_replicate hv]; rfl)
  simpa using this
structure Filled (b : Bool) (W wr : World) (n m : Nat) : Prop where
  le : m ≤ n
  pos : 0 < n → 0 < m
  row : wr.heap[W.heap.size]? = some (.cells (encs Value.bool (part b m n)).toArray 4 (0, 0))
  old : Below W.heap.size W wr
theorem part_length (b : Bool) (m n : Nat) (h : m ≤ n) : (encs Value.bool (part b m n)).length = n := by simp [encs, part]; omega
theorem part_true (b : Bool) (m n j : Nat) (h : j < m) : (encs Value.bool (part b m n))[j]? = some (.bool b) := by
  rw [encs, part, List.map_append, List.map_replicate, List.getElem?_append_left (by simpa using h)]
  simp [h]
theorem Filled.grow {b : Bool} {W wr : World} {n m k : Nat} (h : Filled b W wr n m) (hk : m + k ≤ n) : Filled b W (wr.setCells W.heap.size m (List.replicate k (.bool b))) n (m + k) := by
  refine ⟨hk, fun hn => Nat.lt_of_lt_of_le (h.pos hn) (Nat.le_add_right _ _), ?_, ?_⟩
  · rw [setCells_heap _ 4 _ _ (encs Value.bool (part b m n)) wr h.row (by rw [part_length _ _ _ h.le]; simpa using hk), part_grow b m k n hk]
  · exact h.old.grown (setCells_grown W.heap.size _ m (World.grownBy.refl wr _)) h.old.size (fun k e => by injection e with e; omega)
theorem made_b (n : Nat) : madeCells #[.bool false] n = (encs Value.bool (List.replicate n false)).toArray := by
  apply Array.ext'
  apply List.ext_getElem
  · simp [madeCells, encs]
  · intro i h1 h2
    simp [madeCells, encs, Nat.mod_one]
theorem Filled.start {b : Bool} {W : World} {n x : Nat} (hx : W.cell? ⟨x, 0, none⟩ = some (.bool b)) :
    ∃ wr m, (Builtin.copy_ #[26, 26] 3 #[.slice (some ⟨W.heap.size, 0, none⟩) n n, .slice (some ⟨x, 0, none⟩) 1 1]).run Try.prog (W.alloc (.cells (madeCells #[.bool false] n) 4)) = .ok (.int .i64 (m : Nat)) wr ∧ Filled b W wr n m := by
  rw [made_b]
  have hr : (W.alloc (.cells (encs Value.bool (List.replicate n false)).toArray 4)).heap[W.heap.size]? = some (.cells (encs Value.bool (part b 0 n)).toArray 4 (0, 0)) := heap_alloc_new W _
  have hxl : (W.alloc (.cells (encs Value.bool (List.replicate n false)).toArray 4)).cell? ⟨x, 0, none⟩ = some (.bool b) := pw_cell_below (below_alloc (Below.refl _ W) _) hx
  by_cases hn : n = 0
  · subst hn
    refine ⟨_, 0, ?_, Nat.le_refl _, fun h => absurd h (Nat.lt_irrefl _), hr, below_alloc (Below.refl _ W) _⟩
    have := copyB b (W.alloc (.cells (encs Value.bool (List.replicate 0 false)).toArray 4)) 3 W.heap.size 0 0 0 ⟨x, 0, none⟩ 1 1 0 (by simp) (by simp) (by simp) (by simp)
    simpa [World.setCells, goInt] using this
  · refine ⟨(W.alloc (.cells (encs Value.bool (List.replicate n false)).toArray 4)).setCells W.heap.size 0 (List.replicate 1 (.bool b)), 1, ?_, ?_⟩
    · have := copyB b (W.alloc (.cells (encs Value.bool (List.replicate n false)).toArray 4)) 3 W.heap.size 0 n n ⟨x, 0, none⟩ 1 1 1 (by simp [Nat.min_def]; omega) (fun j hj => by
        have : j = 0 := by omega
        subst this
        simpa [Addr.add] using hxl) (fun j hj => by rw [blk_cell hr]; have := part_length b 0 n (by omega); simp; omega) (fun j _ => blk_frozen' hr _)
      simpa [goInt] using this
    · refine ⟨by omega, fun _ => by omega, ?_, ?_⟩
      · have := setCells_heap W.heap.size 4 (List.replicate 1 (.bool b)) 0 (encs Value.bool (part b 0 n)) (W.alloc (.cells (encs Value.bool (List.replicate n false)).toArray 4)) hr (by rw [part_length _ _ _ (Nat.zero_le _)]; simp; omega)
        rw [part_grow b 0 1 n (by omega)] at this
        simpa using this
      · exact (below_alloc (Below.refl _ W) _).grown (setCells_grown W.heap.size _ 0 (World.grownBy.refl _ _)) (by simp) (fun k e => by injection e with e; omega)
theorem Filled.drew {b : Bool} {W wr : World} {n m : Nat} (h : Filled b W wr n m) : Filled b W wr.drew n m := ⟨h.le, h.pos, h.row, below_drew h.old⟩
theorem Filled.more {b : Bool} {W wr : World} {n m : Nat} (h : Filled b W wr n m) (hm : m < n) :
    ∃ wr' k, (Builtin.copy_ #[26, 26] 3 #[.slice (some ⟨W.heap.size, m, none⟩) (n - m) (n - m), .slice (some ⟨W.heap.size, 0, none⟩) m n]).run Try.prog wr.drew = .ok (.int .i64 (k : Nat)) wr' ∧ 0 < k ∧ Filled b W wr' n (m + k) := by
  have h' := h.drew
  have hp := h.pos (by omega)
  have hk : m + min m (n - m) ≤ n := by omega
  refine ⟨_, min m (n - m), ?_, by omega, h'.grow hk⟩
  have := copyB b wr.drew 3 W.heap.size m (n - m) (n - m) ⟨W.heap.size, 0, none⟩ m n (min m (n - m)) rfl (fun j hj => by
    have e : (⟨W.heap.size, 0, none⟩ : Addr).add j = ⟨W.heap.size, j, none⟩ := by unfold Addr.add; split <;> simp_all
    rw [e, blk_cell h'.row]
    simpa using part_true b m n j (by omega)) (fun j hj => by
    have := part_length b m n h.le
    rw [blk_cell h'.row]; simp; omega) (fun j _ => blk_frozen' h'.row _)
  simpa [goInt] using this

set_option maxRecDepth 100000 in
set_option maxHeartbeats 1000000 in
theorem repeat_any (b : Bool) (W : World) (x n : Nat) (hx : W.cell? ⟨x, 0, none⟩ = some (.bool b)) (hn : n ≤ 1048576) :
    Calls Try.prog 49 #[.slice (some ⟨x, 0, none⟩) 1 1, .int .i64 n] W fun e W' =>
      e = .returned (.slice (some ⟨W.heap.size, 0, none⟩) n n) ∧ W'.heap[W.heap.size]? = some (.cells (encs Value.bool (List.replicate n b)).toArray 4 (0, 0)) ∧ Below W.heap.size W W' := by
  have mb := run_make_row' (P := Try.prog) 26 4 (.bool false) 1 Try.underlying26 info4 rfl .i64 .i64 n (by omega) (by omega)
  obtain ⟨wr, m, hcp, hF⟩ := Filled.start (n := n) hx
  go_enter Try.func49, Try.ntmps49
  go_wp2_with fail
  refine (mul_one _ n hn).mono ?_
  rintro e w1 ⟨rfl, rfl⟩
  have HF := Lib.hid hF
  clear hF
  go_wp2_with fail
  go_loopw [8] (fun i wr => ∃ m : Nat, i = .int .i64 m ∧ Filled b w1 wr n m) (fun i _ => n - (intOf i).toNat)
  case atStart => exact ⟨m, rfl, HF.out⟩
  case round =>
    obtain ⟨m, rfl, hF⟩ := hrel
    clear HF hcp mb
    have hle := hF.le
    have HF := Lib.hid hF
    clear hF
    by_cases hm : m < n
    · have hmi : (m : Int) < (n : Int) := by omega
      obtain ⟨wr', k, hcp, hk, hF'⟩ := HF.out.more hm
      have hle' := hF'.le
      have HF' := Lib.hid hF'
      clear hF'
      go_wp2
      go_region
      all_goals go_wp2
      go_roundw
      case rel => exact ⟨m + k, by go_num, HF'.out⟩
      case measure => simp [intOf]; omega
    · have hmn : m = n := by omega
      subst hmn
      go_wp2
      go_ret
      refine ⟨rfl, ?_, HF.out.old⟩
      have := HF.out.row
      simpa [part] using this
end Go.Proofs.Ythgnbeeobhfeaaa.T
end

section
/- Walks: flags, clones. -/
namespace Go.Proofs.Ythgnbeeobhfeaaa.T
open Go.RowKit Go.Shelf Go.Proofs.YthgnbeeobhfeaaaW.PrintWords Go.Proofs.YthgnbeeobhfeaaaW.PrintLast

/-- A row of flags of the call's own. -/
abbrev OB (W : World) (B : Nat) (v : Value) (xs : List Bool) : Prop := W.ownsRow B 4 1 v xs.length (encs Value.bool xs)
theorem own_of_block {W : World} {B g : Nat} {e : TypeId} {xs : List Value} (h : W.heap[g]? = some (.cells xs.toArray e (0, 0))) (hB : B ≤ g) (hm : xs.length ≤ 9223372036854775807) : W.ownsRow B e 1 (.slice (some ⟨g, 0, none⟩) xs.length xs.length) xs.length xs :=
  ⟨by simp, .inr ⟨g, xs.length, xs.toArray, rfl, hB, h, Nat.le_refl _, by simpa [maxLen] using hm, by simp, by simp⟩⟩
theorem OB.reads {W : World} {B : Nat} {v : Value} {xs : List Bool} (h : OB W B v xs) : ∃ A c, v = .slice A xs.length c ∧ xs.length ≤ c ∧ Kd.bool.C W A xs.length xs :=
  Kd.R_reads (Kd.R_of_own (h1 := fun _ => rfl) (enc := Value.bool) (ok := fun _ => True) h (fun _ _ => trivial))

set_option maxRecDepth 100000 in
set_option maxHeartbeats 1000000 in
theorem flags_any (W : World) (n : Nat) (M : Option Nat) (b : Bool) (hn : n ≤ 1048576) :
    Calls Try.prog 28 #[.agg #[.int .i64 n, .map M], .bool b] W fun e W' => ∃ v, e = .returned v ∧ OB W' W.heap.size v (List.replicate n b) ∧ Below W.heap.size W W' := by
  go_enter Try.func28, Try.ntmps28
  go_wp2_with fail
  refine (repeat_any b _ (W.heap.size + 1) n ?_ hn).mono ?_
  · have := cell_one_new (W.alloc (.cells #[.int .i64 n, .map M] 76)) (.bool b) 4
    rw [World.size_alloc] at this
    simpa [Addr.add] using this 0 _ rfl
  rintro e W' ⟨rfl, h1, h2⟩
  go_wp2
  go_ret
  refine ⟨_, rfl, ?_, ?_⟩
  · have := own_of_block (B := W.heap.size) h1 (by simp; omega) (by rw [encs_length]; simp; omega)
    rw [encs_length] at this
    rw [List.length_replicate] at this
    show W'.ownsRow _ _ _ _ (List.replicate n b).length _
    rw [List.length_replicate]
    simp only [World.size_alloc] at this
    exact this
  · exact (below_alloc (below_alloc (Below.refl _ _) _) _).trans (h2.mono (by simp; omega))

set_option maxRecDepth 100000 in
set_option maxHeartbeats 1000000 in
theorem clone_any (W : World) (A : Option Addr) (c : Nat) (xs : List Bool) (hC : Kd.bool.C W A xs.length xs) (hc : xs.length ≤ c) (hl : xs.length ≤ 1048576) :
    Calls Try.prog 40 #[.slice A xs.length c] W fun e W' => ∃ v, e = .returned v ∧ OB W' W.heap.size v xs ∧ Below W.heap.size W W' := by
  have he := fun W' : World => run_eql_slice_nil (P := Try.prog) W' 26 4 A xs.length c Try.underlying26
  cases A with
  | none =>
    have h0 : xs = [] := by
      rcases Nat.eq_zero_or_pos xs.length with h | h
      · exact List.eq_nil_of_length_eq_zero h
      · obtain ⟨ad, h, _⟩ := hC.2.2 h
        cases h
    subst h0
    have he : ∀ W' : World, (binOp .eql 26 (.slice none 0 c) (.slice none 0 0)).run Try.prog W' = .ok (.bool true) W' := he
    go_enter Try.func40, Try.ntmps40
    go_wp2
    go_ret
    exact ⟨_, rfl, own_nil _ _ _ _, Below.refl _ _⟩
  | some ad =>
    have he : ∀ W' : World, (binOp .eql 26 (.slice (some ad) xs.length c) (.slice none 0 0)).run Try.prog W' = .ok (.bool false) W' := he
    have hO : (Kd.scalar Value.bool (fun _ => rfl)).R 4 (W.alloc (.cells #[] 4)) W.heap.size (fun _ => True) (.slice (some ⟨W.heap.size, 0, none⟩) 0 0) ([] : List Bool) :=
      Kd.R_of_own (World.ownsRow_made W #[] 0 (Nat.le_refl _) (by simp [maxLen]) rfl) (fun _ _ => trivial)
    have hC' : (Kd.scalar Value.bool (fun _ => rfl)).C (W.alloc (.cells #[] 4)) (some ad) xs.length xs := Kd.C_below hC (below_alloc (Below.refl _ _) _)
    have HO := Lib.hid hO
    have HC := Lib.hid hC'
    clear hO hC' hC
    go_enter Try.func40, Try.ntmps40
    go_wp2_with (first | (at_builtin; refine Kd.R_append_row (w0 := W) Value.bool false W.heap.size rfl (.tmp 5) (.tmp 6) 26 4 (.bool false) 1 rfl Try.underlying26 info4 rfl (by decide) (.slice (some ⟨W.heap.size, 0, none⟩) 0 0) [] xs (some ad) xs.length c (fun _ => True) rfl rfl (fun _ _ => trivial) HO.out HC.out (below_alloc (Below.refl _ _) _) (by simp) (by simp; omega) ?_; intro v1 w1 ho hb hg hat))
    go_ret
    exact ⟨_, rfl, by simpa using Kd.own_of_R ho, hb⟩
end Go.Proofs.Ythgnbeeobhfeaaa.T
end

section
/- How an argument is read: what lies in memory at a type is of the kind of that type. -/
namespace Go.Proofs.Ythgnbeeobhfeaaa.T
open Go.ChangeShapes Go.WideShapes Go.ChangeAt Go.Joins Go.Deep Go.RowKit Go.Proofs.YthgnbeeobhfeaaaW.PrintWords Go.Proofs.YthgnbeeobhfeaaaW.PrintLast

/-- What is read at type t is of kind d, and Q of it. -/
def Rd {α : Type} (t : TypeId) (d : Kd α) (Q : α → Prop) : Prop :=
  Try.prog.cellsOf t = d.sz ∧ 0 < d.sz ∧ ∀ (H : Type) (enc : TypeId × Value → H) (W : World) (base : Nat) (spare : Nat → Bool) (held : Bool) (n : Nat) (cs : List Value) (x : DataW H × List MemPlace),
    DataW.trod enc Try.prog W base spare held n t cs = some x → ∃ a, d.K W a cs ∧ Q a

theorem Rd.int {t : TypeId} {k : IntKind} (ht : Try.prog.underlying t = some (.int k)) (hc : Try.prog.cellsOf t = 1) : Rd t (Kd.int k) (fun a => (Lit.int k a).wf = true) :=
  ⟨hc, Nat.one_pos, fun H enc W base spare held n cs x h => by
    obtain ⟨a, rfl, _, hw⟩ := DataW.trod_int ht h
    exact ⟨a, rfl, hw⟩⟩
theorem Rd.bool {t : TypeId} (ht : Try.prog.underlying t = some .bool) (hc : Try.prog.cellsOf t = 1) : Rd t Kd.bool (fun _ => True) :=
  ⟨hc, Nat.one_pos, fun H enc W base spare held n cs x h => by
    obtain ⟨a, rfl, _⟩ := DataW.trod_bool ht h
    exact ⟨a, rfl, trivial⟩⟩

theorem choose_list {α : Type} {n : Nat} {P : Nat → α → Prop} (h : ∀ i, i < n → ∃ x, P i x) : ∃ l : List α, l.length = n ∧ ∀ i x, l[i]? = some x → P i x := by
  induction n with
  | zero => exact ⟨[], rfl, fun i x hx => by simp at hx⟩
  | succ n ih =>
    obtain ⟨l, hl, hp⟩ := ih (fun i hi => h i (by omega))
    obtain ⟨y, hy⟩ := h n (by omega)
    refine ⟨l ++ [y], by simp [hl], fun i x hx => ?_⟩
    by_cases e : i < n
    · rw [List.getElem?_append_left (by omega)] at hx
      exact hp i x hx
    · have : i = n := by
        have := (List.getElem?_eq_some_iff.1 hx).1
        simp at this
        omega
      subst this
      rw [List.getElem?_append_right (by omega), hl] at hx
      simp at hx
      exact hx ▸ hy

/-- The rows: what a slice that is read leads to. -/
theorem Rd.row {α : Type} {t e : TypeId} {d : Kd α} {Q : α → Prop} (ht : Try.prog.underlying t = some (.slice e)) (hd : Rd e d Q) {H : Type} {enc : TypeId × Value → H} {W : World} {base : Nat} {spare : Nat → Bool} {held : Bool} {n : Nat} {cs : List Value} {x : DataW H × List MemPlace}
    (h : DataW.trod enc Try.prog W base spare held n t cs = some x) : ∃ (A : Option Addr) (c : Nat) (l : List α), cs = [.slice A l.length c] ∧ l.length ≤ c ∧ d.C W A l.length l ∧ ∀ y ∈ l, Q y := by
  obtain ⟨hsz, hpos, hr⟩ := hd
  rcases DataW.trod_slice ht h with ⟨rfl, _⟩ | ⟨a, len, cap, elems, rest, n, _, rfl, _, _, hlc, hcm, hel, hi, _⟩
  · exact ⟨none, 0, [], rfl, Nat.le_refl _, ⟨rfl, by simp, fun h => absurd h (by simp)⟩, fun y hy => by cases hy⟩
  · have key : ∀ i, i < len → ∃ y : α, Q y ∧ ∃ cs, cs.length = d.sz ∧ d.K W y cs ∧ ∀ j u, cs[j]? = some u → W.cell? (a.add (i * d.sz + j)) = some u := by
      intro i hil
      have h1 := hi i hil
      rw [List.getElem?_eq_getElem (by omega)] at h1
      obtain ⟨cs, hcs, hx⟩ := Option.bind_eq_some_iff.1 h1
      obtain ⟨y, hy, hq⟩ := hr H enc W base spare held _ cs _ hx
      obtain ⟨_, hl, hc⟩ := World.cells?_some hcs
      rw [hsz] at hl hc
      refine ⟨y, hq, cs, hl, hy, fun j u hj => ?_⟩
      have hlt : j < d.sz := by have := (List.getElem?_eq_some_iff.1 hj).1; omega
      have h2 := hc j hlt
      rw [hj] at h2
      have e : (a.add (i * d.sz)).add j = a.add (i * d.sz + j) := by
        obtain ⟨b, off, spot⟩ := a
        have hs : ∀ (A : Addr) (u : Value), W.cell? A = some u → A.spot = none := fun A u hA => World.cell?_spot hA
        have := hs _ _ h2
        unfold Addr.add at *
        split at this <;> split at this <;> simp_all <;> omega
      rw [e] at h2
      exact h2
    obtain ⟨l, hl, hp⟩ := choose_list key
    refine ⟨some a, cap, l, by rw [hl], by omega, ⟨rfl, by have : maxLen = 9223372036854775807 := rfl; omega, fun _ => ⟨a, rfl, fun j p hj => ?_⟩⟩, fun y hy => ?_⟩
    · obtain ⟨_, cs, h1, h2, h3⟩ := hp j p hj
      exact ⟨cs, h1, h2, h3⟩
    · obtain ⟨i, hi⟩ := List.mem_iff_getElem?.1 hy
      exact (hp i y hi).1
theorem Rd.slice {α : Type} {t e : TypeId} {d : Kd α} {Q : α → Prop} (ht : Try.prog.underlying t = some (.slice e)) (hc : Try.prog.cellsOf t = 1) (hd : Rd e d Q) : Rd t (Kd.slice e d) (fun l => ∀ y ∈ l, Q y) :=
  ⟨hc, Nat.one_pos, fun H enc W base spare held n cs x h => by
    obtain ⟨A, c, l, rfl, h1, h2, h3⟩ := Rd.row ht hd h
    exact ⟨l, ⟨A, c, rfl, h1, h2⟩, h3⟩⟩

/-- Fields, from cell `off` on. -/
def Fd {β : Type} (off : Nat) (fs : List Field) (d : Kd β) (Q : β → Prop) : Prop :=
  ∀ (H : Type) (enc : TypeId × Value → H) (W : World) (base : Nat) (spare : Nat → Bool) (held : Bool) (n : Nat) (cs : List Value), cs.length = off + d.sz →
    (∀ (i : Nat) (f : Field), fs[i]? = some f → ∃ x, DataW.trod enc Try.prog W base spare held n f.type ((cs.drop f.offset).take (Try.prog.cellsOf f.type)) = some x) → ∃ b, d.K W b (cs.drop off) ∧ Q b
theorem Fd.one {β : Type} {off : Nat} {f : Field} {t : TypeId} {d : Kd β} {Q : β → Prop} (hd : Rd t d Q) (ht : f.type = t) (ho : f.offset = off) : Fd off [f] d Q := by
  intro H enc W base spare held n cs hl hf
  obtain ⟨x, hx⟩ := hf 0 f rfl
  rw [ht, ho, hd.1, List.take_of_length_le (by rw [List.length_drop]; omega)] at hx
  exact hd.2.2 H enc W base spare held n _ x hx
theorem Fd.cons {α β : Type} {off : Nat} {f : Field} {fs : List Field} {t : TypeId} {d : Kd α} {d' : Kd β} {Q : α → Prop} {Q' : β → Prop} (hd : Rd t d Q) (ht : f.type = t) (ho : f.offset = off) (hf : Fd (off + d.sz) fs d' Q') : Fd off (f :: fs) (Kd.pair d d') (fun b => Q b.1 ∧ Q' b.2) := by
  intro H enc W base spare held n cs hl hi
  have hsz : (Kd.pair d d').sz = d.sz + d'.sz := rfl
  rw [hsz] at hl
  obtain ⟨x, hx⟩ := hi 0 f rfl
  rw [ht, ho, hd.1] at hx
  obtain ⟨a, ha, hq⟩ := hd.2.2 H enc W base spare held n _ x hx
  obtain ⟨b, hb, hq'⟩ := hf H enc W base spare held n cs (by omega) (fun i g hg => hi (i + 1) g (by simpa using hg))
  refine ⟨(a, b), ⟨(cs.drop off).take d.sz, cs.drop (off + d.sz), ?_, ha, hb⟩, hq, hq'⟩
  rw [← List.drop_drop, List.take_append_drop]
theorem Rd.struct {α β : Type} {t : TypeId} {fs : Array Field} {d : Kd β} {Q : β → Prop} {go : α → β} (ht : Try.prog.underlying t = some (.struct fs)) (hc : Try.prog.cellsOf t = d.sz) (hp : 0 < d.sz) (back : β → α) (hback : ∀ b, go (back b) = b) (hf : Fd 0 fs.toList d Q) {Q' : α → Prop} (hQ : ∀ b, Q b → Q' (back b)) : Rd t (Kd.iso d go) Q' :=
  ⟨hc, hp, fun H enc W base spare held n cs x h => by
    obtain ⟨xs, n, _, _, hl, hlen, hi⟩ := DataW.trod_struct ht h
    obtain ⟨b, hb, hq⟩ := hf H enc W base spare held n cs (by omega) (fun i f hg => by
      have h1 := hi i f (by simpa using hg)
      have : i < xs.length := by
        have := (List.getElem?_eq_some_iff.1 hg).1
        simp at this
        omega
      exact ⟨xs[i], by rw [h1, List.getElem?_eq_getElem this]⟩)
    refine ⟨back b, ?_, hQ b hq⟩
    show d.K W (go (back b)) cs
    rw [hback]
    simpa using hb⟩

theorem rd3 : Rd 3 (Kd.int .i64) (fun a => (Lit.int .i64 a).wf = true) := Rd.int Try.underlying3 (by kernel_rfl)
theorem rd46 : Rd 46 (Kd.int .i64) (fun a => (Lit.int .i64 a).wf = true) := Rd.int Try.underlying46 (by kernel_rfl)
theorem rd49 : Rd 49 (Kd.int .i64) (fun a => (Lit.int .i64 a).wf = true) := Rd.int Try.underlying49 (by kernel_rfl)
theorem rd69 : Rd 69 (Kd.int .i64) (fun a => (Lit.int .i64 a).wf = true) := Rd.int Try.underlying69 (by kernel_rfl)
theorem rd4 : Rd 4 Kd.bool (fun _ => True) := Rd.bool Try.underlying4 (by kernel_rfl)
theorem rd42 : Rd 42 (Kd.slice 3 (Kd.int .i64)) (fun l => ∀ y ∈ l, (Lit.int .i64 y).wf = true) := Rd.slice Try.underlying42 (by kernel_rfl) rd3
theorem rd48 : Rd 48 k48 (fun _ => True) := Rd.struct Try.underlying48 (by kernel_rfl) (by decide) (fun b => ⟨b.1, b.2⟩) (fun _ => rfl) (Fd.cons rd3 rfl rfl (Fd.one rd42 rfl rfl)) (fun _ _ => trivial)
theorem rd54 : Rd 54 k54 (fun _ => True) := Rd.struct Try.underlying54 (by kernel_rfl) (by decide) (fun b => ⟨b.1, b.2.1, b.2.2.1, b.2.2.2⟩) (fun _ => rfl) (Fd.cons rd4 rfl rfl (Fd.cons rd3 rfl rfl (Fd.cons rd4 rfl rfl (Fd.one rd48 rfl rfl)))) (fun _ _ => trivial)
theorem rd50 : Rd 50 (Kd.slice 54 k54) (fun l => ∀ y ∈ l, True) := Rd.slice Try.underlying50 (by kernel_rfl) rd54
theorem rd52 : Rd 52 k52 (fun _ => True) := Rd.struct Try.underlying52 (by kernel_rfl) (by decide) (fun b => ⟨b.1, b.2.1, b.2.2.1, b.2.2.2.1, b.2.2.2.2⟩) (fun _ => rfl) (Fd.cons rd49 rfl rfl (Fd.cons rd50 rfl rfl (Fd.cons rd48 rfl rfl (Fd.cons rd3 rfl rfl (Fd.one rd3 rfl rfl))))) (fun _ _ => trivial)
theorem rd71 : Rd 71 k71 (fun _ => True) := Rd.struct Try.underlying71 (by kernel_rfl) (by decide) (fun b => ⟨b.1, b.2.1, b.2.2.1, b.2.2.2.1, b.2.2.2.2⟩) (fun _ => rfl) (Fd.cons rd69 rfl rfl (Fd.cons rd3 rfl rfl (Fd.cons rd48 rfl rfl (Fd.cons rd52 rfl rfl (Fd.one rd54 rfl rfl))))) (fun _ _ => trivial)
theorem rd56 : Rd 56 k56 (fun _ => True) := Rd.struct Try.underlying56 (by kernel_rfl) (by decide) (fun b => ⟨b.1, b.2.1, b.2.2.1, b.2.2.2.1, b.2.2.2.2.1, b.2.2.2.2.2⟩) (fun _ => rfl) (Fd.cons rd46 rfl rfl (Fd.cons rd3 rfl rfl (Fd.cons rd48 rfl rfl (Fd.cons rd52 rfl rfl (Fd.cons rd54 rfl rfl (Fd.one rd42 rfl rfl)))))) (fun _ _ => trivial)
theorem rd45 : Rd 45 (Kd.slice 71 k71) (fun l => ∀ y ∈ l, True) := Rd.slice Try.underlying45 (by kernel_rfl) rd71
theorem rd58 : Rd 58 k58 (fun _ => True) := Rd.struct Try.underlying58 (by kernel_rfl) (by decide) (fun b => ⟨b.1, b.2⟩) (fun _ => rfl) (Fd.cons rd45 rfl rfl (Fd.one rd56 rfl rfl)) (fun _ _ => trivial)
theorem rd66 : Rd 66 k66 (fun c => (Lit.int .i64 c.f0).wf = true ∧ (Lit.int .i64 c.f1).wf = true) := Rd.struct Try.underlying66 (by kernel_rfl) (by decide) (fun b => ⟨b.1, b.2.1, b.2.2.1, b.2.2.2⟩) (fun _ => rfl) (Fd.cons rd3 rfl rfl (Fd.cons rd3 rfl rfl (Fd.cons rd42 rfl rfl (Fd.one rd42 rfl rfl)))) (fun _ h => ⟨h.1, h.2.1⟩)

/-! ### Arguments -/
section
variable {H : Type} {enc : TypeId × Value → H} {W : World} {base b0 : Nat} {spare : Nat → Bool} {held : Bool} {r : Reach} {v : Value} {d : DataW H} {p : List MemPlace}
set_option maxRecDepth 100000 in
theorem open_row {α : Type} {t e : TypeId} {k : Kd α} {Q : α → Prop} (ht : Try.prog.underlying t = some (.slice e)) (hd : Rd e k Q) (hv : Value.okWide Try.prog W r b0 t v) (h : DataW.Trod enc Try.prog W base spare held t v d p) :
    ∃ (A : Option Addr) (c : Nat) (l : List α), v = .slice A l.length c ∧ l.length ≤ c ∧ k.C W A l.length l ∧ ∀ y ∈ l, Q y := by
  obtain ⟨A, n, c, rfl⟩ := okWide_slice ht hv
  obtain ⟨m, hm⟩ := h
  obtain ⟨A', c', l, he, h1, h2, h3⟩ := Rd.row ht hd hm
  simp only [Value.cells, List.cons.injEq, and_true] at he
  exact ⟨A', c', l, he, h1, h2, h3⟩
set_option maxRecDepth 100000 in
theorem open_body (hv : Value.okWide Try.prog W r b0 25 v) (h : DataW.Trod enc Try.prog W base spare held 25 v d p) :
    ∃ (s : ByteArray) (n : Int) (A2 : Option Addr) (n2 c2 : Nat) (A3 : Option Addr) (c3 : Nat) (l : List S58), v = bodyV s n A2 n2 c2 A3 l.length c3 ∧ Kd.C k58 W A3 l.length l := by
  obtain ⟨u0, u1, u2, u3, y0, y1, y2, y3, m, rfl, _, _, e0, e1, e2, e3⟩ := open_agg4 Try.underlying25 (by kernel_rfl) (by kernel_rfl : Try.prog.cellsOf 25 = 4) hv h
  obtain ⟨s, f0, _⟩ := DataW.trod_string Try.underlying9 e0
  obtain ⟨n, f1, _, _⟩ := DataW.trod_int Try.underlying3 e1
  obtain ⟨A2, n2, c2, f2⟩ := slice_form Try.underlying22 e2
  obtain ⟨A3, c3, l, f3, _, h3, _⟩ := Rd.row Try.underlying23 rd58 e3
  simp only [List.cons.injEq, and_true] at f0 f1 f2 f3
  subst f0 f1 f2 f3
  exact ⟨s, n, A2, n2, c2, A3, c3, l, rfl, h3⟩
theorem inW_of_wf {a : Int} (h : (Lit.int .i64 a).wf = true) : inW a = true := h
end
end Go.Proofs.Ythgnbeeobhfeaaa.T
end
