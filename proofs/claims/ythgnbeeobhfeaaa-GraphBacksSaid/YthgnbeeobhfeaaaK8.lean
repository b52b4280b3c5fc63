/- Texts of this claim in one file: H15, H20. -/
import Derived.Test.YthgnbeeobhfeaaaK6
import Derived.Test.YthgnbeeobhfeaaaK7
set_option linter.all false
section
/- Walks: what holds ahead of each step (the program's). -/
namespace Go.Proofs.Ythgnbeeobhfeaaa.T
open Go.RowKit Go.Shelf Go.Proofs.YthgnbeeobhfeaaaW.PrintWords Go.Proofs.YthgnbeeobhfeaaaW.PrintLast


theorem N2.stays {W W' : World} {B : Nat} {v : Value} {xss : List (List Bool)} {T : TypeId} (h : N2 W B v xss) (hT : T ≠ 4 ∧ T ≠ 26) (hm : Stays T W W') : N2 W' B v xss :=
  h.move (fun k t c _ ht hk => (hm k _ hk (fun c' e => by injection e with _ e; rcases ht with rfl | rfl; exact hT.1 e.symm; exact hT.2 e.symm)).trans hk.symm)
theorem FlowSt.stays {w0 : World} {B0 gf gc gbb mb N : Nat} {s : ByteArray} {p : Int} {A2 : Option Addr} {n2 c2 : Nat} {A3 : Option Addr} {c3 : Nat} {l03 : List S58} {cs : List S66} {first : List Bool} {every : Bool} {vf vr vp : Value} {go capo : Nat} {o : Nat → List Bool} {W W' : World}
    (h : FlowSt w0 B0 gf gc gbb mb N s p A2 n2 c2 A3 c3 l03 cs first every vf vr vp go capo o W) {T : TypeId} (hT : T ≠ 66 ∧ T ≠ 4 ∧ T ≠ 3 ∧ T ≠ 42 ∧ T ≠ 73 ∧ T ≠ 25 ∧ T ≠ 79 ∧ T ≠ 26) (hm : Stays T W W') (hb : Below w0.heap.size W W') : FlowSt w0 B0 gf gc gbb mb N s p A2 n2 c2 A3 c3 l03 cs first every vf vr vp go capo o W' := by
  obtain ⟨vs, hp⟩ := h.prd
  obtain ⟨us, h1, h2, h3⟩ := h.flow.out
  have hp' := hp.typed_move hT.2.2.1 hT.2.2.2.1 hm
  exact ⟨⟨h.flow.blk.typed_move hT.2.2.2.2.2.2.1 hm, h.flow.tab.typed hT.1 hm, h.flow.low.trans hb, own_typed_move h.flow.fst hT.2.1 hm, own_typed_move h.flow.rch hT.2.1 hm, ⟨vs, hp'.mono (fun _ _ => trivial)⟩, us, own_typed_move h1 hT.2.2.2.2.2.2.2 hm, h2, fun i u hu => own_typed_move (h3 i u hu) hT.2.1 hm⟩, ⟨vs, hp'⟩, h.box.typed_move hT.2.2.2.2.1 hm, h.bod.typed_move hT.2.2.2.2.2.1 hm, h.len, h.hmb, h.hw0⟩
/-- Nothing to look at. -/
theorem settle_empty {w : World} (B0 : Nat) (hB : B0 = w.heap.size) (b1 go : Nat) (c1 c2 : Value) :
    Settle Unit 0 B0 b1 go 31 32 53 26 c1 c2 (fun _ W => Below w.heap.size w W) (fun _ _ _ => False) (fun _ _ => ()) (fun _ => []) (fun _ _ => true) := by
  subst hB
  exact ⟨fun o W W' h hb => below_then h h.size hb, fun o W W' h hb _ => h.trans hb, fun o W n _ hn => absurd hn (by omega), fun o W _ hm => absurd hm (by omega), fun o W n u x _ hn => absurd hn (by omega), fun W W' u x hu _ => hu, fun W u x hu => hu.elim, fun W u x u' y hu _ => hu.elim, fun o W n _ hn => absurd hn (by omega)⟩
theorem way_empty : Way Unit 0 (fun _ _ => ()) (fun _ => []) (fun _ _ => true) (fun l _ => l = []) (fun _ => 0) where
  rng := by
    intro l o h x hx
    have h' : l = [] := h
    subst h'
    cases hx
  same := fun n l o h => (List.cons_ne_nil _ _ h).elim
  more := fun n l o h => (List.cons_ne_nil _ _ h).elim
  nxr := by
    intro n x hx
    cases hx
theorem own_made {W : World} {B m : Nat} (hB : B ≤ W.heap.size) (hm : m ≤ 9223372036854775807) : (W.alloc (.cells (madeCells #[.slice none 0 0] m) 44)).ownsRow B 44 1 (.slice (some ⟨W.heap.size, 0, none⟩) m m) m (List.replicate m (.slice none 0 0)) := by
  have h := World.ownsRow_lit (base := B) (e := 44) (size := 1) W (madeCells #[.slice none 0 0] m) m hB (by simpa [maxLen] using hm) (by simp [size_madeCells])
  have hl : (madeCells #[Value.slice none 0 0] m).toList = List.replicate m (.slice none 0 0) := by
    apply List.ext_getElem
    · simp [madeCells]
    · intro i h1 h2
      simp [madeCells, Nat.mod_one]
  rw [hl] at h
  simpa using h

/-- What stands at a block, of those that have been looked at (l). -/
noncomputable def rowAt (bs : List Bk) (cs : List Ch) (N : Nat) (start : List Bool) (e : Bool) (l : List Int) (i : Nat) : List (List Bool) := if (i : Int) ∈ l then statesL cs (i : Int) 0 ((bs[i]?.map Bk.ins).getD 0 + 1) (inL bs N start cs e i) else []
theorem rowAt_nil (bs : List Bk) (cs : List Ch) (N : Nat) (start : List Bool) (e : Bool) (i : Nat) : rowAt bs cs N start e [] i = [] := by simp [rowAt]
theorem rowAt_new (bs : List Bk) (cs : List Ch) (N : Nat) (start : List Bool) (e : Bool) (l : List Int) (q : Nat) : rowAt bs cs N start e (l ++ [(q : Int)]) q = statesL cs (q : Int) 0 ((bs[q]?.map Bk.ins).getD 0 + 1) (inL bs N start cs e q) := by simp [rowAt]
theorem rowAt_old (bs : List Bk) (cs : List Ch) (N : Nat) (start : List Bool) (e : Bool) (l : List Int) {q i : Nat} (h : q ≠ i) : rowAt bs cs N start e (l ++ [(q : Int)]) i = rowAt bs cs N start e l i := by
  unfold rowAt
  have : ((i : Int) ∈ l ++ [(q : Int)]) ↔ ((i : Int) ∈ l) := by
    rw [List.mem_append, List.mem_singleton]
    exact ⟨fun h' => h'.resolve_right (fun e' => h (by omega)), .inl⟩
  simp only [this]
theorem flowL_at {bs : List Bk} {cs : List Ch} {N : Nat} {start : List Bool} {e : Bool} {i : Nat} {xss : List (List Bool)} (hi : i < bs.length) (h : (flowL bs N start cs e)[i]? = some xss) : rowAt bs cs N start e (reachI bs) i = xss := by
  rw [flowL, List.getElem?_map, List.getElem?_range hi, Option.map_some, Option.some.injEq] at h
  rw [← h]
  unfold rowAt
  by_cases hr : Rch bs i
  · rw [if_pos (mem_reachI.2 ⟨i, rfl, hr⟩), if_pos (rchB_iff.2 hr)]
  · rw [if_neg (fun hm => by
      obtain ⟨k, hk, hr'⟩ := mem_reachI.1 hm
      have hk' : i = k := by omega
      exact hr (hk' ▸ hr')), if_neg (fun hb => hr (rchB_iff.1 hb))]
set_option maxRecDepth 100000 in
set_option maxHeartbeats 16000000 in
theorem flow_any (s : ByteArray) (p : Int) (A2 : Option Addr) (n2 c2 : Nat) (A3 : Option Addr) (c3 : Nat) (l03 : List S58) (n : Int) (As : Option Addr) (cst : Nat) (start : List Bool) (Al : Option Addr) (cl : Nat) (cs : List S66) (every : Bool) (w : World)
    (hC : Kd.C k58 w A3 l03.length l03) (hf : fewB l03 = true) (hn : n ≤ 30) (hS : Kd.bool.C w As start.length start) (hs : start.length ≤ cst) (hCs : Kd.C k66 w Al cs.length cs) (hcl : cs.length ≤ cl) (hcf : cs.length ≤ 1000) (hWs : ∀ c ∈ cs, inW c.f0 = true ∧ inW c.f1 = true) :
    Calls Try.prog 13 #[bodyV s p A2 n2 c2 A3 l03.length c3, .int .i64 n, .slice As start.length cst, .slice Al cs.length cl, .bool every] w fun e w' => ∃ v, e = .returned v ∧ N3 w' w.heap.size v (flowL (bksOf l03) n.toNat start (chsOf cs) every) ∧ Below w.heap.size w w' := by
  obtain ⟨N, hN⟩ : ∃ N : Nat, n.toNat = N := ⟨_, rfl⟩
  have HC := Lib.hid hC
  have HS := Lib.hid hS
  have HCs := Lib.hid hCs
  have HWs := Lib.hid hWs
  clear hC hS hCs hWs
  go_enter Try.func13, Try.ntmps13
  go_wp2_with fail
  have hwW : Below w.heap.size w (w.alloc (.cells (bodyC s p A2 n2 c2 A3 l03.length c3) 25)) := below_alloc (Below.refl _ _) _
  have hwlt : w.heap.size < (w.alloc (.cells (bodyC s p A2 n2 c2 A3 l03.length c3) 25)).heap.size := by rw [World.size_alloc]; omega
  have hbx : BoxIs (w.alloc (.cells (bodyC s p A2 n2 c2 A3 l03.length c3) 25)) w.heap.size (bodyC s p A2 n2 c2 A3 l03.length c3) 25 := heap_alloc_new w _
  generalize w.alloc (.cells (bodyC s p A2 n2 c2 A3 l03.length c3) 25) = W at *
  have hbody : ∀ W', Below W.heap.size W W' → ∀ j v, (bodyC s p A2 n2 c2 A3 l03.length c3)[j]? = some v → W'.cell? ⟨w.heap.size, j, none⟩ = some v := fun W' hb j v hv => (hbx.below hb hbx.lt).cell j v hv
  rename_i K hK
  have HB_ : Hid (Below W.heap.size W W.drew) := Lib.hid (below_drew (Below.refl _ _))
  refine start_ (n := 13) (S := fun w' => w'.cell? ⟨w.heap.size, 0, none⟩ = some (.string s) ∧ w'.cell? ⟨w.heap.size, 1, none⟩ = some (.int .i64 p) ∧ w'.cell? ⟨w.heap.size, 2, none⟩ = some (.slice A2 n2 c2) ∧ w'.cell? ⟨w.heap.size, 3, none⟩ = some (.slice A3 l03.length c3)) (ds := [12]) #[false, false, false, false, false, false, false, false, false, false, false, false, false] (by kernel_rfl) rfl rfl ⟨hbody _ (below_drew (Below.refl _ _)) 0 _ rfl, hbody _ (below_drew (Below.refl _ _)) 1 _ rfl, hbody _ (below_drew (Below.refl _ _)) 2 _ rfl, hbody _ (below_drew (Below.refl _ _)) 3 _ rfl⟩ (fun hHeld => ?_)
  refine pure_ (i := 0) (N := some 15) (v := ?_) (a' := ?_) #[true, false, false, false, false, false, false, false, false, false, false, false, false] rfl rfl (by kernel_rfl) (fun _ _ _ h => h) (Or.inl ⟨by rfl, ?_⟩) ?_ ?_
  rotate_left
  · intro w'
    go_simp
    with_reducible rfl
  rotate_left
  · simp only [Act.put, List.setIfInBounds_toArray, List.set_cons_zero, List.set_cons_succ, i64_w, i32_w]
    rfl
  refine pure_ (i := 1) (N := some 16) (v := ?_) (a' := ?_) #[true, true, false, false, false, false, false, false, false, false, false, false, false] rfl rfl (by kernel_rfl) (fun _ _ _ h => h) (Or.inl ⟨by rfl, ?_⟩) ?_ ?_
  rotate_left
  · intro w'
    go_simp
    with_reducible rfl
  rotate_left
  · simp only [Act.put, List.setIfInBounds_toArray, List.set_cons_zero, List.set_cons_succ, i64_w, i32_w]
    rfl
  refine pure_ (i := 4) (N := some 19) (v := ?_) (a' := ?_) #[true, true, false, false, true, false, false, false, false, false, false, false, false] rfl rfl (by kernel_rfl) (fun _ _ _ h => h) (Or.inl ⟨by rfl, ?_⟩) ?_ ?_
  rotate_left
  · intro w'
    go_simp
    with_reducible rfl
  rotate_left
  · simp only [Act.put, List.setIfInBounds_toArray, List.set_cons_zero, List.set_cons_succ, i64_w, i32_w]
    rfl
  refine take_ (i := 3) (N := some 18) (v := ?_) (a' := ?_) #[true, true, false, true, true, false, false, false, false, false, false, false, false] rfl rfl (by kernel_rfl) (fun _ _ _ h => h) (Or.inl ⟨by rfl, ?_⟩) hHeld ?_ ?_
  rotate_left
  · rintro w' ⟨s0, s1, s2, s3⟩
    go_simp
    with_reducible rfl
  rotate_left
  · simp only [Act.put, List.setIfInBounds_toArray, List.set_cons_zero, List.set_cons_succ, i64_w, i32_w]
    rfl
  refine take_ (i := 5) (N := some 20) (v := ?_) (a' := ?_) #[true, true, false, true, true, true, false, false, false, false, false, false, false] rfl rfl (by kernel_rfl) (fun _ _ _ h => h) (Or.inl ⟨by rfl, ?_⟩) hHeld ?_ ?_
  rotate_left
  · rintro w' ⟨s0, s1, s2, s3⟩
    go_simp
    with_reducible rfl
  rotate_left
  · simp only [Act.put, List.setIfInBounds_toArray, List.set_cons_zero, List.set_cons_succ, i64_w, i32_w]
    rfl
  refine take_ (i := 7) (N := some 22) (v := ?_) (a' := ?_) #[true, true, false, true, true, true, false, true, false, false, false, false, false] rfl rfl (by kernel_rfl) (fun _ _ _ h => h) (Or.inl ⟨by rfl, ?_⟩) hHeld ?_ ?_
  rotate_left
  · rintro w' ⟨s0, s1, s2, s3⟩
    go_simp
    with_reducible rfl
  rotate_left
  · simp only [Act.put, List.setIfInBounds_toArray, List.set_cons_zero, List.set_cons_succ, i64_w, i32_w]
    rfl
  refine join_ (σ := Nat × Option Addr × Nat × Option Addr × Nat × Nat × Nat) 1 #[true, true, true, true, true, true, true, true, true, true, true, true, false] (fun s_ => [(17, .agg #[.int .i64 (N : Int), .map (some s_.1)]), (21, .slice s_.2.1 (reachL (bksOf l03)).length s_.2.2.1), (23, .slice s_.2.2.2.1 l03.length s_.2.2.2.2.1), (25, .pointer (some ⟨s_.2.2.2.2.2.1, 0, none⟩)), (11, .pointer (some ⟨s_.2.2.2.2.2.2, 0, none⟩)), (24, .agg #[.int .i64 (N : Int), .map (some s_.1), .string s, .int .i64 p, .slice A2 n2 c2, .slice A3 l03.length c3, .slice none 0 0, .bool every, .slice s_.2.1 (reachL (bksOf l03)).length s_.2.2.1, .slice s_.2.2.2.1 l03.length s_.2.2.2.2.1, .slice none 0 0])]) (fun s_ w' => (w'.cell? ⟨w.heap.size, 0, none⟩ = some (.string s) ∧ w'.cell? ⟨w.heap.size, 1, none⟩ = some (.int .i64 p) ∧ w'.cell? ⟨w.heap.size, 2, none⟩ = some (.slice A2 n2 c2) ∧ w'.cell? ⟨w.heap.size, 3, none⟩ = some (.slice A3 l03.length c3)) ∧ (Below W.heap.size W w') ∧ (TabIs w w' w.heap.size s_.1 cs) ∧ (OB w' w.heap.size (.slice s_.2.1 (reachL (bksOf l03)).length s_.2.2.1) (reachL (bksOf l03))) ∧ (∃ vs, RR w' w.heap.size 3 42 (fun _ => True) (.slice s_.2.2.2.1 l03.length s_.2.2.2.2.1) vs (((List.range l03.length).map (predsL (bksOf l03))).map (encs (Value.int .i64)))) ∧ (BoxIs w' s_.2.2.2.2.2.1 #[.int .i64 (N : Int), .map (some s_.1), .string s, .int .i64 p, .slice A2 n2 c2, .slice A3 l03.length c3, .slice none 0 0, .bool every, .slice s_.2.1 (reachL (bksOf l03)).length s_.2.2.1, .slice s_.2.2.2.1 l03.length s_.2.2.2.2.1, .slice none 0 0] 79 ∧ w.heap.size < s_.2.2.2.2.2.1) ∧ (BoxIs w' s_.2.2.2.2.2.2 #[.pointer none] 73 ∧ w.heap.size < s_.2.2.2.2.2.2)) ?_ ?_
  rotate_left
  · intro hJ2_6_8_10_11
    refine join_ (σ := Nat × Option Addr × Nat × Option Addr × Nat × Nat) 2 #[true, true, true, true, true, true, true, true, true, true, true, false, false] (fun s_ => [(17, .agg #[.int .i64 (N : Int), .map (some s_.1)]), (21, .slice s_.2.1 (reachL (bksOf l03)).length s_.2.2.1), (23, .slice s_.2.2.2.1 l03.length s_.2.2.2.2.1), (25, .pointer (some ⟨s_.2.2.2.2.2, 0, none⟩)), (24, .agg #[.int .i64 (N : Int), .map (some s_.1), .string s, .int .i64 p, .slice A2 n2 c2, .slice A3 l03.length c3, .slice none 0 0, .bool every, .slice s_.2.1 (reachL (bksOf l03)).length s_.2.2.1, .slice s_.2.2.2.1 l03.length s_.2.2.2.2.1, .slice none 0 0])]) (fun s_ w' => (w'.cell? ⟨w.heap.size, 0, none⟩ = some (.string s) ∧ w'.cell? ⟨w.heap.size, 1, none⟩ = some (.int .i64 p) ∧ w'.cell? ⟨w.heap.size, 2, none⟩ = some (.slice A2 n2 c2) ∧ w'.cell? ⟨w.heap.size, 3, none⟩ = some (.slice A3 l03.length c3)) ∧ (Below W.heap.size W w') ∧ (TabIs w w' w.heap.size s_.1 cs) ∧ (OB w' w.heap.size (.slice s_.2.1 (reachL (bksOf l03)).length s_.2.2.1) (reachL (bksOf l03))) ∧ (∃ vs, RR w' w.heap.size 3 42 (fun _ => True) (.slice s_.2.2.2.1 l03.length s_.2.2.2.2.1) vs (((List.range l03.length).map (predsL (bksOf l03))).map (encs (Value.int .i64)))) ∧ (BoxIs w' s_.2.2.2.2.2 #[.int .i64 (N : Int), .map (some s_.1), .string s, .int .i64 p, .slice A2 n2 c2, .slice A3 l03.length c3, .slice none 0 0, .bool every, .slice s_.2.1 (reachL (bksOf l03)).length s_.2.2.1, .slice s_.2.2.2.1 l03.length s_.2.2.2.2.1, .slice none 0 0] 79 ∧ w.heap.size < s_.2.2.2.2.2)) ?_ ?_
    rotate_left
    · intro hJ2_6_8_10
      refine join_ (σ := Nat × Option Addr × Nat × Option Addr × Nat × Nat) 2 #[true, true, true, true, true, true, true, true, true, true, false, true, false] (fun s_ => [(17, .agg #[.int .i64 (N : Int), .map (some s_.1)]), (21, .slice s_.2.1 (reachL (bksOf l03)).length s_.2.2.1), (23, .slice s_.2.2.2.1 l03.length s_.2.2.2.2.1), (11, .pointer (some ⟨s_.2.2.2.2.2, 0, none⟩)), (24, .agg #[.int .i64 (N : Int), .map (some s_.1), .string s, .int .i64 p, .slice A2 n2 c2, .slice A3 l03.length c3, .slice none 0 0, .bool every, .slice s_.2.1 (reachL (bksOf l03)).length s_.2.2.1, .slice s_.2.2.2.1 l03.length s_.2.2.2.2.1, .slice none 0 0])]) (fun s_ w' => (w'.cell? ⟨w.heap.size, 0, none⟩ = some (.string s) ∧ w'.cell? ⟨w.heap.size, 1, none⟩ = some (.int .i64 p) ∧ w'.cell? ⟨w.heap.size, 2, none⟩ = some (.slice A2 n2 c2) ∧ w'.cell? ⟨w.heap.size, 3, none⟩ = some (.slice A3 l03.length c3)) ∧ (Below W.heap.size W w') ∧ (TabIs w w' w.heap.size s_.1 cs) ∧ (OB w' w.heap.size (.slice s_.2.1 (reachL (bksOf l03)).length s_.2.2.1) (reachL (bksOf l03))) ∧ (∃ vs, RR w' w.heap.size 3 42 (fun _ => True) (.slice s_.2.2.2.1 l03.length s_.2.2.2.2.1) vs (((List.range l03.length).map (predsL (bksOf l03))).map (encs (Value.int .i64)))) ∧ (BoxIs w' s_.2.2.2.2.2 #[.pointer none] 73 ∧ w.heap.size < s_.2.2.2.2.2)) ?_ ?_
      rotate_left
      · intro hJ2_6_8_11
        refine join_ (σ := Nat × Option Addr × Nat × Option Addr × Nat) 3 #[true, true, true, true, true, true, true, true, true, true, false, false, false] (fun s_ => [(17, .agg #[.int .i64 (N : Int), .map (some s_.1)]), (21, .slice s_.2.1 (reachL (bksOf l03)).length s_.2.2.1), (23, .slice s_.2.2.2.1 l03.length s_.2.2.2.2), (24, .agg #[.int .i64 (N : Int), .map (some s_.1), .string s, .int .i64 p, .slice A2 n2 c2, .slice A3 l03.length c3, .slice none 0 0, .bool every, .slice s_.2.1 (reachL (bksOf l03)).length s_.2.2.1, .slice s_.2.2.2.1 l03.length s_.2.2.2.2, .slice none 0 0])]) (fun s_ w' => (w'.cell? ⟨w.heap.size, 0, none⟩ = some (.string s) ∧ w'.cell? ⟨w.heap.size, 1, none⟩ = some (.int .i64 p) ∧ w'.cell? ⟨w.heap.size, 2, none⟩ = some (.slice A2 n2 c2) ∧ w'.cell? ⟨w.heap.size, 3, none⟩ = some (.slice A3 l03.length c3)) ∧ (Below W.heap.size W w') ∧ (TabIs w w' w.heap.size s_.1 cs) ∧ (OB w' w.heap.size (.slice s_.2.1 (reachL (bksOf l03)).length s_.2.2.1) (reachL (bksOf l03))) ∧ (∃ vs, RR w' w.heap.size 3 42 (fun _ => True) (.slice s_.2.2.2.1 l03.length s_.2.2.2.2) vs (((List.range l03.length).map (predsL (bksOf l03))).map (encs (Value.int .i64))))) ?_ ?_
        rotate_left
        · intro hJ2_6_8
          refine join_ (σ := Nat × Option Addr × Nat × Nat) 4 #[true, true, true, true, true, true, true, true, false, false, false, true, false] (fun s_ => [(17, .agg #[.int .i64 (N : Int), .map (some s_.1)]), (21, .slice s_.2.1 (reachL (bksOf l03)).length s_.2.2.1), (11, .pointer (some ⟨s_.2.2.2, 0, none⟩))]) (fun s_ w' => (w'.cell? ⟨w.heap.size, 0, none⟩ = some (.string s) ∧ w'.cell? ⟨w.heap.size, 1, none⟩ = some (.int .i64 p) ∧ w'.cell? ⟨w.heap.size, 2, none⟩ = some (.slice A2 n2 c2) ∧ w'.cell? ⟨w.heap.size, 3, none⟩ = some (.slice A3 l03.length c3)) ∧ (Below W.heap.size W w') ∧ (TabIs w w' w.heap.size s_.1 cs) ∧ (OB w' w.heap.size (.slice s_.2.1 (reachL (bksOf l03)).length s_.2.2.1) (reachL (bksOf l03))) ∧ (BoxIs w' s_.2.2.2 #[.pointer none] 73 ∧ w.heap.size < s_.2.2.2)) ?_ ?_
          rotate_left
          · intro hJ2_6_11
            refine join_ (σ := Nat × Option Addr × Nat) 5 #[true, true, true, true, true, true, true, true, false, false, false, false, false] (fun s_ => [(17, .agg #[.int .i64 (N : Int), .map (some s_.1)]), (21, .slice s_.2.1 (reachL (bksOf l03)).length s_.2.2)]) (fun s_ w' => (w'.cell? ⟨w.heap.size, 0, none⟩ = some (.string s) ∧ w'.cell? ⟨w.heap.size, 1, none⟩ = some (.int .i64 p) ∧ w'.cell? ⟨w.heap.size, 2, none⟩ = some (.slice A2 n2 c2) ∧ w'.cell? ⟨w.heap.size, 3, none⟩ = some (.slice A3 l03.length c3)) ∧ (Below W.heap.size W w') ∧ (TabIs w w' w.heap.size s_.1 cs) ∧ (OB w' w.heap.size (.slice s_.2.1 (reachL (bksOf l03)).length s_.2.2) (reachL (bksOf l03)))) ?_ ?_
            rotate_left
            · intro hJ2_6
              refine join_ (σ := Nat × Nat) 5 #[true, true, true, true, true, true, false, true, false, false, false, true, false] (fun s_ => [(17, .agg #[.int .i64 (N : Int), .map (some s_.1)]), (11, .pointer (some ⟨s_.2, 0, none⟩))]) (fun s_ w' => (w'.cell? ⟨w.heap.size, 0, none⟩ = some (.string s) ∧ w'.cell? ⟨w.heap.size, 1, none⟩ = some (.int .i64 p) ∧ w'.cell? ⟨w.heap.size, 2, none⟩ = some (.slice A2 n2 c2) ∧ w'.cell? ⟨w.heap.size, 3, none⟩ = some (.slice A3 l03.length c3)) ∧ (Below W.heap.size W w') ∧ (TabIs w w' w.heap.size s_.1 cs) ∧ (BoxIs w' s_.2 #[.pointer none] 73 ∧ w.heap.size < s_.2)) ?_ ?_
              rotate_left
              · intro hJ2_11
                refine join_ (σ := Nat) 6 #[true, true, true, true, true, true, false, true, false, false, false, false, false] (fun s_ => [(17, .agg #[.int .i64 (N : Int), .map (some s_)])]) (fun s_ w' => (w'.cell? ⟨w.heap.size, 0, none⟩ = some (.string s) ∧ w'.cell? ⟨w.heap.size, 1, none⟩ = some (.int .i64 p) ∧ w'.cell? ⟨w.heap.size, 2, none⟩ = some (.slice A2 n2 c2) ∧ w'.cell? ⟨w.heap.size, 3, none⟩ = some (.slice A3 l03.length c3)) ∧ (Below W.heap.size W w') ∧ (TabIs w w' w.heap.size s_ cs)) ?_ ?_
                rotate_left
                · intro hJ2
                  refine join_ (σ := Nat) 6 #[true, true, false, true, true, true, false, true, false, false, false, true, false] (fun s_ => [(11, .pointer (some ⟨s_, 0, none⟩))]) (fun s_ w' => (w'.cell? ⟨w.heap.size, 0, none⟩ = some (.string s) ∧ w'.cell? ⟨w.heap.size, 1, none⟩ = some (.int .i64 p) ∧ w'.cell? ⟨w.heap.size, 2, none⟩ = some (.slice A2 n2 c2) ∧ w'.cell? ⟨w.heap.size, 3, none⟩ = some (.slice A3 l03.length c3)) ∧ (Below W.heap.size W w') ∧ (BoxIs w' s_ #[.pointer none] 73 ∧ w.heap.size < s_)) ?_ ?_
                  rotate_left
                  · intro hJ11
                    refine two_ (i := 2) (j := 11) (Ni := some 17) (Nj := some 11) #[true, true, true, true, true, true, false, true, false, false, false, false, false] #[true, true, false, true, true, true, false, true, false, false, false, true, false] rfl rfl rfl rfl (by kernel_rfl) (by decide) (by decide) (fun K hK => ?_) (fun K hK => ?_)
                    · skip
                      refine goes_ Try.func27 (by kernel_rfl) rfl #[.int .i64 n, .slice Al cs.length cl] (by rfl) rfl rfl (by simp only [List.map_toArray, List.map_cons, List.map_nil]; rfl) ?_
                      with_reducible refine (newTable_n w _ (hwW.trans (HB_.out.mono hwW.size)) n N hN (by omega) Al cl cs HCs.out hcf HWs.out).mono ?_
                      rintro e w3 ⟨mbx, rfl, hmb, htab, hb⟩
                      refine ⟨_, rfl, ?_⟩
                      refine hK.out _ _ ⟨hbody _ (below_then HB_.out HB_.out.size hb) 0 _ rfl, hbody _ (below_then HB_.out HB_.out.size hb) 1 _ rfl, hbody _ (below_then HB_.out HB_.out.size hb) 2 _ rfl, hbody _ (below_then HB_.out HB_.out.size hb) 3 _ rfl⟩ (fun hHeld => ?_)
                      clear hK K
                      refine norm_ (a' := ?_) ?_ ?_
                      rotate_left
                      · show Act.put _ (some 17) _ = _
                        simp only [Act.put, List.setIfInBounds_toArray, List.set_cons_zero, List.set_cons_succ, i64_w, i32_w]
                        rfl
                      exact norm_ (by first | (simp only [Go.Proofs.YthgnbeeobhfeaaaW.PrintLast.putAll, Act.put, List.setIfInBounds_toArray, List.set_cons_zero, List.set_cons_succ]; done) | (simp only [Go.Proofs.YthgnbeeobhfeaaaW.PrintLast.putAll, Act.put, List.setIfInBounds_toArray, List.set_cons_zero, List.set_cons_succ]; rfl)) (hJ2 (mbx) _ ⟨hHeld, below_then HB_.out HB_.out.size hb, htab.weaken (Nat.le_trans hwW.size HB_.out.size)⟩)
                    · skip
                      refine value_ (w1 := ?_) (v := ?_) (by rfl) rfl ?_ ?_
                      rotate_left 2
                      · go_simp
                        constructor
                        · rfl
                        · rfl
                      have hb := below_alloc (Below.refl W.drew.heap.size W.drew) (Obj.cells (#[.pointer none] : Array Value) 73)
                      refine hK.out _ _ ⟨hbody _ (below_then HB_.out HB_.out.size hb) 0 _ rfl, hbody _ (below_then HB_.out HB_.out.size hb) 1 _ rfl, hbody _ (below_then HB_.out HB_.out.size hb) 2 _ rfl, hbody _ (below_then HB_.out HB_.out.size hb) 3 _ rfl⟩ (fun hHeld => ?_)
                      clear hK K
                      refine norm_ (a' := ?_) ?_ ?_
                      rotate_left
                      · show Act.put _ (some 11) _ = _
                        simp only [Act.put, List.setIfInBounds_toArray, List.set_cons_zero, List.set_cons_succ, i64_w, i32_w]
                        rfl
                      exact norm_ (by first | (simp only [Go.Proofs.YthgnbeeobhfeaaaW.PrintLast.putAll, Act.put, List.setIfInBounds_toArray, List.set_cons_zero, List.set_cons_succ]; done) | (simp only [Go.Proofs.YthgnbeeobhfeaaaW.PrintLast.putAll, Act.put, List.setIfInBounds_toArray, List.set_cons_zero, List.set_cons_succ]; rfl)) (hJ11 (W.drew.heap.size) _ ⟨hHeld, below_then HB_.out HB_.out.size hb, ⟨heap_alloc_new _ _, Nat.lt_of_lt_of_le hwlt HB_.out.size⟩⟩)
                  · skip
                    rintro gc wz ⟨hS_, h0_, h1_⟩
                    clear HB_
                    have HB_ : Hid (Below W.heap.size W wz) := Lib.hid h0_
                    have HX : Hid (BoxIs wz gc #[.pointer none] 73 ∧ w.heap.size < gc) := Lib.hid h1_
                    clear h0_ h1_
                    have hHeld : wz.cell? ⟨w.heap.size, 0, none⟩ = some (.string s) ∧ wz.cell? ⟨w.heap.size, 1, none⟩ = some (.int .i64 p) ∧ wz.cell? ⟨w.heap.size, 2, none⟩ = some (.slice A2 n2 c2) ∧ wz.cell? ⟨w.heap.size, 3, none⟩ = some (.slice A3 l03.length c3) := hS_
                    refine norm_ (a' := ?_) ?_ ?_
                    rotate_left
                    · simp only [Go.Proofs.YthgnbeeobhfeaaaW.PrintLast.putAll, Act.put, List.setIfInBounds_toArray, List.set_cons_zero, List.set_cons_succ]
                      rfl
                    refine one_ (i := 2) (N := some 17) #[true, true, true, true, true, true, false, true, false, false, false, true, false] rfl rfl (by kernel_rfl) (by decide) (fun K hK => ?_)
                    refine goes_ Try.func27 (by kernel_rfl) rfl #[.int .i64 n, .slice Al cs.length cl] (by rfl) rfl rfl (by simp only [List.map_toArray, List.map_cons, List.map_nil]; rfl) ?_
                    with_reducible refine (newTable_n w _ (hwW.trans (HB_.out.mono hwW.size)) n N hN (by omega) Al cl cs HCs.out hcf HWs.out).mono ?_
                    rintro e w3 ⟨mbx, rfl, hmb, htab, hb⟩
                    refine ⟨_, rfl, ?_⟩
                    refine hK.out _ _ ⟨hbody _ (below_then HB_.out HB_.out.size hb) 0 _ rfl, hbody _ (below_then HB_.out HB_.out.size hb) 1 _ rfl, hbody _ (below_then HB_.out HB_.out.size hb) 2 _ rfl, hbody _ (below_then HB_.out HB_.out.size hb) 3 _ rfl⟩ (fun hHeld => ?_)
                    clear hK K
                    refine norm_ (a' := ?_) ?_ ?_
                    rotate_left
                    · show Act.put _ (some 17) _ = _
                      simp only [Act.put, List.setIfInBounds_toArray, List.set_cons_zero, List.set_cons_succ, i64_w, i32_w]
                      rfl
                    exact norm_ (by first | (simp only [Go.Proofs.YthgnbeeobhfeaaaW.PrintLast.putAll, Act.put, List.setIfInBounds_toArray, List.set_cons_zero, List.set_cons_succ]; done) | (simp only [Go.Proofs.YthgnbeeobhfeaaaW.PrintLast.putAll, Act.put, List.setIfInBounds_toArray, List.set_cons_zero, List.set_cons_succ]; rfl)) (hJ2_11 (mbx, gc) _ ⟨hHeld, below_then HB_.out HB_.out.size hb, htab.weaken (Nat.le_trans hwW.size HB_.out.size), ⟨HX.out.1.below hb HX.out.1.lt, HX.out.2⟩⟩)
                · skip
                  rintro mb wz ⟨hS_, h0_, h1_⟩
                  clear HB_
                  have HB_ : Hid (Below W.heap.size W wz) := Lib.hid h0_
                  have HT : Hid (TabIs w wz w.heap.size mb cs) := Lib.hid h1_
                  clear h0_ h1_
                  have hHeld : wz.cell? ⟨w.heap.size, 0, none⟩ = some (.string s) ∧ wz.cell? ⟨w.heap.size, 1, none⟩ = some (.int .i64 p) ∧ wz.cell? ⟨w.heap.size, 2, none⟩ = some (.slice A2 n2 c2) ∧ wz.cell? ⟨w.heap.size, 3, none⟩ = some (.slice A3 l03.length c3) := hS_
                  refine norm_ (a' := ?_) ?_ ?_
                  rotate_left
                  · simp only [Go.Proofs.YthgnbeeobhfeaaaW.PrintLast.putAll, Act.put, List.setIfInBounds_toArray, List.set_cons_zero, List.set_cons_succ]
                    rfl
                  refine two_ (i := 6) (j := 11) (Ni := some 21) (Nj := some 11) #[true, true, true, true, true, true, true, true, false, false, false, false, false] #[true, true, true, true, true, true, false, true, false, false, false, true, false] rfl rfl rfl rfl (by kernel_rfl) (by decide) (by decide) (fun K hK => ?_) (fun K hK => ?_)
                  · skip
                    refine goes_ Try.func20 (by kernel_rfl) rfl #[bodyV s p A2 n2 c2 A3 l03.length c3] (by rfl) rfl rfl (by simp only [List.map_toArray, List.map_cons, List.map_nil]; rfl) ?_
                    with_reducible refine (reach_any s p A2 n2 c2 A3 c3 l03 _ (Kd.C_below HC.out (hwW.trans (HB_.out.mono hwW.size))) hf).mono ?_
                    rintro e w3 ⟨vrx, rfl, hor, hb⟩
                    obtain ⟨Arx, crx, rfl⟩ := own_slice hor
                    refine ⟨_, rfl, ?_⟩
                    refine hK.out _ _ ⟨hbody _ (below_then HB_.out HB_.out.size hb) 0 _ rfl, hbody _ (below_then HB_.out HB_.out.size hb) 1 _ rfl, hbody _ (below_then HB_.out HB_.out.size hb) 2 _ rfl, hbody _ (below_then HB_.out HB_.out.size hb) 3 _ rfl⟩ (fun hHeld => ?_)
                    clear hK K
                    refine norm_ (a' := ?_) ?_ ?_
                    rotate_left
                    · show Act.put _ (some 21) _ = _
                      simp only [Act.put, List.setIfInBounds_toArray, List.set_cons_zero, List.set_cons_succ, i64_w, i32_w]
                      rfl
                    exact norm_ (by first | (simp only [Go.Proofs.YthgnbeeobhfeaaaW.PrintLast.putAll, Act.put, List.setIfInBounds_toArray, List.set_cons_zero, List.set_cons_succ]; done) | (simp only [Go.Proofs.YthgnbeeobhfeaaaW.PrintLast.putAll, Act.put, List.setIfInBounds_toArray, List.set_cons_zero, List.set_cons_succ]; rfl)) (hJ2_6 (mb, Arx, crx) _ ⟨hHeld, below_then HB_.out HB_.out.size hb, HT.out.below hb, own_weaken hor (Nat.le_trans hwW.size HB_.out.size)⟩)
                  · skip
                    refine value_ (w1 := ?_) (v := ?_) (by rfl) rfl ?_ ?_
                    rotate_left 2
                    · go_simp
                      constructor
                      · rfl
                      · rfl
                    have hb := below_alloc (Below.refl wz.heap.size wz) (Obj.cells (#[.pointer none] : Array Value) 73)
                    refine hK.out _ _ ⟨hbody _ (below_then HB_.out HB_.out.size hb) 0 _ rfl, hbody _ (below_then HB_.out HB_.out.size hb) 1 _ rfl, hbody _ (below_then HB_.out HB_.out.size hb) 2 _ rfl, hbody _ (below_then HB_.out HB_.out.size hb) 3 _ rfl⟩ (fun hHeld => ?_)
                    clear hK K
                    refine norm_ (a' := ?_) ?_ ?_
                    rotate_left
                    · show Act.put _ (some 11) _ = _
                      simp only [Act.put, List.setIfInBounds_toArray, List.set_cons_zero, List.set_cons_succ, i64_w, i32_w]
                      rfl
                    exact norm_ (by first | (simp only [Go.Proofs.YthgnbeeobhfeaaaW.PrintLast.putAll, Act.put, List.setIfInBounds_toArray, List.set_cons_zero, List.set_cons_succ]; done) | (simp only [Go.Proofs.YthgnbeeobhfeaaaW.PrintLast.putAll, Act.put, List.setIfInBounds_toArray, List.set_cons_zero, List.set_cons_succ]; rfl)) (hJ2_11 (mb, wz.heap.size) _ ⟨hHeld, below_then HB_.out HB_.out.size hb, HT.out.below hb, ⟨heap_alloc_new _ _, Nat.lt_of_lt_of_le hwlt HB_.out.size⟩⟩)
              · skip
                rintro ⟨mb, gc⟩ wz ⟨hS_, h0_, h1_, h2_⟩
                clear HB_
                have HB_ : Hid (Below W.heap.size W wz) := Lib.hid h0_
                have HT : Hid (TabIs w wz w.heap.size mb cs) := Lib.hid h1_
                have HX : Hid (BoxIs wz gc #[.pointer none] 73 ∧ w.heap.size < gc) := Lib.hid h2_
                clear h0_ h1_ h2_
                have hHeld : wz.cell? ⟨w.heap.size, 0, none⟩ = some (.string s) ∧ wz.cell? ⟨w.heap.size, 1, none⟩ = some (.int .i64 p) ∧ wz.cell? ⟨w.heap.size, 2, none⟩ = some (.slice A2 n2 c2) ∧ wz.cell? ⟨w.heap.size, 3, none⟩ = some (.slice A3 l03.length c3) := hS_
                refine norm_ (a' := ?_) ?_ ?_
                rotate_left
                · simp only [Go.Proofs.YthgnbeeobhfeaaaW.PrintLast.putAll, Act.put, List.setIfInBounds_toArray, List.set_cons_zero, List.set_cons_succ]
                  rfl
                refine one_ (i := 6) (N := some 21) #[true, true, true, true, true, true, true, true, false, false, false, true, false] rfl rfl (by kernel_rfl) (by decide) (fun K hK => ?_)
                refine goes_ Try.func20 (by kernel_rfl) rfl #[bodyV s p A2 n2 c2 A3 l03.length c3] (by rfl) rfl rfl (by simp only [List.map_toArray, List.map_cons, List.map_nil]; rfl) ?_
                with_reducible refine (reach_any s p A2 n2 c2 A3 c3 l03 _ (Kd.C_below HC.out (hwW.trans (HB_.out.mono hwW.size))) hf).mono ?_
                rintro e w3 ⟨vrx, rfl, hor, hb⟩
                obtain ⟨Arx, crx, rfl⟩ := own_slice hor
                refine ⟨_, rfl, ?_⟩
                refine hK.out _ _ ⟨hbody _ (below_then HB_.out HB_.out.size hb) 0 _ rfl, hbody _ (below_then HB_.out HB_.out.size hb) 1 _ rfl, hbody _ (below_then HB_.out HB_.out.size hb) 2 _ rfl, hbody _ (below_then HB_.out HB_.out.size hb) 3 _ rfl⟩ (fun hHeld => ?_)
                clear hK K
                refine norm_ (a' := ?_) ?_ ?_
                rotate_left
                · show Act.put _ (some 21) _ = _
                  simp only [Act.put, List.setIfInBounds_toArray, List.set_cons_zero, List.set_cons_succ, i64_w, i32_w]
                  rfl
                exact norm_ (by first | (simp only [Go.Proofs.YthgnbeeobhfeaaaW.PrintLast.putAll, Act.put, List.setIfInBounds_toArray, List.set_cons_zero, List.set_cons_succ]; done) | (simp only [Go.Proofs.YthgnbeeobhfeaaaW.PrintLast.putAll, Act.put, List.setIfInBounds_toArray, List.set_cons_zero, List.set_cons_succ]; rfl)) (hJ2_6_11 (mb, Arx, crx, gc) _ ⟨hHeld, below_then HB_.out HB_.out.size hb, HT.out.below hb, own_weaken hor (Nat.le_trans hwW.size HB_.out.size), ⟨HX.out.1.below hb HX.out.1.lt, HX.out.2⟩⟩)
            · skip
              rintro ⟨mb, Ar, cr⟩ wz ⟨hS_, h0_, h1_, h2_⟩
              clear HB_
              have HB_ : Hid (Below W.heap.size W wz) := Lib.hid h0_
              have HT : Hid (TabIs w wz w.heap.size mb cs) := Lib.hid h1_
              have HR : Hid (OB wz w.heap.size (.slice Ar (reachL (bksOf l03)).length cr) (reachL (bksOf l03))) := Lib.hid h2_
              clear h0_ h1_ h2_
              have hHeld : wz.cell? ⟨w.heap.size, 0, none⟩ = some (.string s) ∧ wz.cell? ⟨w.heap.size, 1, none⟩ = some (.int .i64 p) ∧ wz.cell? ⟨w.heap.size, 2, none⟩ = some (.slice A2 n2 c2) ∧ wz.cell? ⟨w.heap.size, 3, none⟩ = some (.slice A3 l03.length c3) := hS_
              refine norm_ (a' := ?_) ?_ ?_
              rotate_left
              · simp only [Go.Proofs.YthgnbeeobhfeaaaW.PrintLast.putAll, Act.put, List.setIfInBounds_toArray, List.set_cons_zero, List.set_cons_succ]
                rfl
              refine two_ (i := 8) (j := 11) (Ni := some 23) (Nj := some 11) #[true, true, true, true, true, true, true, true, true, false, false, false, false] #[true, true, true, true, true, true, true, true, false, false, false, true, false] rfl rfl rfl rfl (by kernel_rfl) (by decide) (by decide) (fun K hK => ?_) (fun K hK => ?_)
              · skip
                refine goes_ Try.func18 (by kernel_rfl) rfl #[bodyV s p A2 n2 c2 A3 l03.length c3] (by rfl) rfl rfl (by simp only [List.map_toArray, List.map_cons, List.map_nil]; rfl) ?_
                with_reducible refine (preds_any s p A2 n2 c2 A3 c3 l03 _ (Kd.C_below HC.out (hwW.trans (HB_.out.mono hwW.size))) hf).mono ?_
                rintro e w3 ⟨vpx, vsx, rfl, hrr, hb⟩
                have hvl : vsx.length = l03.length := by rw [hrr.len]; simp
                obtain ⟨Apx, cpx, hvx⟩ := own_slice hrr.own
                rw [hvl] at hvx
                subst hvx
                refine ⟨_, rfl, ?_⟩
                refine hK.out _ _ ⟨hbody _ (below_then HB_.out HB_.out.size hb) 0 _ rfl, hbody _ (below_then HB_.out HB_.out.size hb) 1 _ rfl, hbody _ (below_then HB_.out HB_.out.size hb) 2 _ rfl, hbody _ (below_then HB_.out HB_.out.size hb) 3 _ rfl⟩ (fun hHeld => ?_)
                clear hK K
                refine norm_ (a' := ?_) ?_ ?_
                rotate_left
                · show Act.put _ (some 23) _ = _
                  simp only [Act.put, List.setIfInBounds_toArray, List.set_cons_zero, List.set_cons_succ, i64_w, i32_w]
                  rfl
                refine pure_ (i := 9) (N := some 24) (v := ?_) (a' := ?_) #[true, true, true, true, true, true, true, true, true, true, false, false, false] rfl rfl (by kernel_rfl) (fun _ _ _ h => h) (Or.inl ⟨by rfl, ?_⟩) ?_ ?_
                rotate_left
                · intro w'
                  go_simp
                  with_reducible rfl
                rotate_left
                · simp only [Act.put, List.setIfInBounds_toArray, List.set_cons_zero, List.set_cons_succ, i64_w, i32_w]
                  rfl
                exact norm_ (by first | (simp only [Go.Proofs.YthgnbeeobhfeaaaW.PrintLast.putAll, Act.put, List.setIfInBounds_toArray, List.set_cons_zero, List.set_cons_succ]; done) | (simp only [Go.Proofs.YthgnbeeobhfeaaaW.PrintLast.putAll, Act.put, List.setIfInBounds_toArray, List.set_cons_zero, List.set_cons_succ]; rfl)) (hJ2_6_8 (mb, Ar, cr, Apx, cpx) _ ⟨hHeld, below_then HB_.out HB_.out.size hb, HT.out.below hb, pw_own_below HR.out hb, ⟨vsx, (hrr.mono (fun _ _ => trivial)).weaken (Nat.le_trans hwW.size HB_.out.size)⟩⟩)
              · skip
                refine value_ (w1 := ?_) (v := ?_) (by rfl) rfl ?_ ?_
                rotate_left 2
                · go_simp
                  constructor
                  · rfl
                  · rfl
                have hb := below_alloc (Below.refl wz.heap.size wz) (Obj.cells (#[.pointer none] : Array Value) 73)
                refine hK.out _ _ ⟨hbody _ (below_then HB_.out HB_.out.size hb) 0 _ rfl, hbody _ (below_then HB_.out HB_.out.size hb) 1 _ rfl, hbody _ (below_then HB_.out HB_.out.size hb) 2 _ rfl, hbody _ (below_then HB_.out HB_.out.size hb) 3 _ rfl⟩ (fun hHeld => ?_)
                clear hK K
                refine norm_ (a' := ?_) ?_ ?_
                rotate_left
                · show Act.put _ (some 11) _ = _
                  simp only [Act.put, List.setIfInBounds_toArray, List.set_cons_zero, List.set_cons_succ, i64_w, i32_w]
                  rfl
                exact norm_ (by first | (simp only [Go.Proofs.YthgnbeeobhfeaaaW.PrintLast.putAll, Act.put, List.setIfInBounds_toArray, List.set_cons_zero, List.set_cons_succ]; done) | (simp only [Go.Proofs.YthgnbeeobhfeaaaW.PrintLast.putAll, Act.put, List.setIfInBounds_toArray, List.set_cons_zero, List.set_cons_succ]; rfl)) (hJ2_6_11 (mb, Ar, cr, wz.heap.size) _ ⟨hHeld, below_then HB_.out HB_.out.size hb, HT.out.below hb, pw_own_below HR.out hb, ⟨heap_alloc_new _ _, Nat.lt_of_lt_of_le hwlt HB_.out.size⟩⟩)
          · skip
            rintro ⟨mb, Ar, cr, gc⟩ wz ⟨hS_, h0_, h1_, h2_, h3_⟩
            clear HB_
            have HB_ : Hid (Below W.heap.size W wz) := Lib.hid h0_
            have HT : Hid (TabIs w wz w.heap.size mb cs) := Lib.hid h1_
            have HR : Hid (OB wz w.heap.size (.slice Ar (reachL (bksOf l03)).length cr) (reachL (bksOf l03))) := Lib.hid h2_
            have HX : Hid (BoxIs wz gc #[.pointer none] 73 ∧ w.heap.size < gc) := Lib.hid h3_
            clear h0_ h1_ h2_ h3_
            have hHeld : wz.cell? ⟨w.heap.size, 0, none⟩ = some (.string s) ∧ wz.cell? ⟨w.heap.size, 1, none⟩ = some (.int .i64 p) ∧ wz.cell? ⟨w.heap.size, 2, none⟩ = some (.slice A2 n2 c2) ∧ wz.cell? ⟨w.heap.size, 3, none⟩ = some (.slice A3 l03.length c3) := hS_
            refine norm_ (a' := ?_) ?_ ?_
            rotate_left
            · simp only [Go.Proofs.YthgnbeeobhfeaaaW.PrintLast.putAll, Act.put, List.setIfInBounds_toArray, List.set_cons_zero, List.set_cons_succ]
              rfl
            refine one_ (i := 8) (N := some 23) #[true, true, true, true, true, true, true, true, true, false, false, true, false] rfl rfl (by kernel_rfl) (by decide) (fun K hK => ?_)
            refine goes_ Try.func18 (by kernel_rfl) rfl #[bodyV s p A2 n2 c2 A3 l03.length c3] (by rfl) rfl rfl (by simp only [List.map_toArray, List.map_cons, List.map_nil]; rfl) ?_
            with_reducible refine (preds_any s p A2 n2 c2 A3 c3 l03 _ (Kd.C_below HC.out (hwW.trans (HB_.out.mono hwW.size))) hf).mono ?_
            rintro e w3 ⟨vpx, vsx, rfl, hrr, hb⟩
            have hvl : vsx.length = l03.length := by rw [hrr.len]; simp
            obtain ⟨Apx, cpx, hvx⟩ := own_slice hrr.own
            rw [hvl] at hvx
            subst hvx
            refine ⟨_, rfl, ?_⟩
            refine hK.out _ _ ⟨hbody _ (below_then HB_.out HB_.out.size hb) 0 _ rfl, hbody _ (below_then HB_.out HB_.out.size hb) 1 _ rfl, hbody _ (below_then HB_.out HB_.out.size hb) 2 _ rfl, hbody _ (below_then HB_.out HB_.out.size hb) 3 _ rfl⟩ (fun hHeld => ?_)
            clear hK K
            refine norm_ (a' := ?_) ?_ ?_
            rotate_left
            · show Act.put _ (some 23) _ = _
              simp only [Act.put, List.setIfInBounds_toArray, List.set_cons_zero, List.set_cons_succ, i64_w, i32_w]
              rfl
            refine pure_ (i := 9) (N := some 24) (v := ?_) (a' := ?_) #[true, true, true, true, true, true, true, true, true, true, false, true, false] rfl rfl (by kernel_rfl) (fun _ _ _ h => h) (Or.inl ⟨by rfl, ?_⟩) ?_ ?_
            rotate_left
            · intro w'
              go_simp
              with_reducible rfl
            rotate_left
            · simp only [Act.put, List.setIfInBounds_toArray, List.set_cons_zero, List.set_cons_succ, i64_w, i32_w]
              rfl
            exact norm_ (by first | (simp only [Go.Proofs.YthgnbeeobhfeaaaW.PrintLast.putAll, Act.put, List.setIfInBounds_toArray, List.set_cons_zero, List.set_cons_succ]; done) | (simp only [Go.Proofs.YthgnbeeobhfeaaaW.PrintLast.putAll, Act.put, List.setIfInBounds_toArray, List.set_cons_zero, List.set_cons_succ]; rfl)) (hJ2_6_8_11 (mb, Ar, cr, Apx, cpx, gc) _ ⟨hHeld, below_then HB_.out HB_.out.size hb, HT.out.below hb, pw_own_below HR.out hb, ⟨vsx, (hrr.mono (fun _ _ => trivial)).weaken (Nat.le_trans hwW.size HB_.out.size)⟩, ⟨HX.out.1.below hb HX.out.1.lt, HX.out.2⟩⟩)
        · skip
          rintro ⟨mb, Ar, cr, Ap, cp⟩ wz ⟨hS_, h0_, h1_, h2_, h3_⟩
          clear HB_
          have HB_ : Hid (Below W.heap.size W wz) := Lib.hid h0_
          have HT : Hid (TabIs w wz w.heap.size mb cs) := Lib.hid h1_
          have HR : Hid (OB wz w.heap.size (.slice Ar (reachL (bksOf l03)).length cr) (reachL (bksOf l03))) := Lib.hid h2_
          have HP : Hid (∃ vs, RR wz w.heap.size 3 42 (fun _ => True) (.slice Ap l03.length cp) vs (((List.range l03.length).map (predsL (bksOf l03))).map (encs (Value.int .i64)))) := Lib.hid h3_
          clear h0_ h1_ h2_ h3_
          have hHeld : wz.cell? ⟨w.heap.size, 0, none⟩ = some (.string s) ∧ wz.cell? ⟨w.heap.size, 1, none⟩ = some (.int .i64 p) ∧ wz.cell? ⟨w.heap.size, 2, none⟩ = some (.slice A2 n2 c2) ∧ wz.cell? ⟨w.heap.size, 3, none⟩ = some (.slice A3 l03.length c3) := hS_
          refine norm_ (a' := ?_) ?_ ?_
          rotate_left
          · simp only [Go.Proofs.YthgnbeeobhfeaaaW.PrintLast.putAll, Act.put, List.setIfInBounds_toArray, List.set_cons_zero, List.set_cons_succ]
            rfl
          refine two_ (i := 10) (j := 11) (Ni := some 25) (Nj := some 11) #[true, true, true, true, true, true, true, true, true, true, true, false, false] #[true, true, true, true, true, true, true, true, true, true, false, true, false] rfl rfl rfl rfl (by kernel_rfl) (by decide) (by decide) (fun K hK => ?_) (fun K hK => ?_)
          · skip
            refine value_ (w1 := ?_) (v := ?_) (by rfl) rfl ?_ ?_
            rotate_left 2
            · go_simp
              constructor
              · rfl
              · rfl
            have hb := below_alloc (Below.refl wz.heap.size wz) (Obj.cells (#[.int .i64 (N : Int), .map (some mb), .string s, .int .i64 p, .slice A2 n2 c2, .slice A3 l03.length c3, .slice none 0 0, .bool every, .slice Ar (reachL (bksOf l03)).length cr, .slice Ap l03.length cp, .slice none 0 0] : Array Value) 79)
            refine hK.out _ _ ⟨hbody _ (below_then HB_.out HB_.out.size hb) 0 _ rfl, hbody _ (below_then HB_.out HB_.out.size hb) 1 _ rfl, hbody _ (below_then HB_.out HB_.out.size hb) 2 _ rfl, hbody _ (below_then HB_.out HB_.out.size hb) 3 _ rfl⟩ (fun hHeld => ?_)
            clear hK K
            refine norm_ (a' := ?_) ?_ ?_
            rotate_left
            · show Act.put _ (some 25) _ = _
              simp only [Act.put, List.setIfInBounds_toArray, List.set_cons_zero, List.set_cons_succ, i64_w, i32_w]
              rfl
            exact norm_ (by first | (simp only [Go.Proofs.YthgnbeeobhfeaaaW.PrintLast.putAll, Act.put, List.setIfInBounds_toArray, List.set_cons_zero, List.set_cons_succ]; done) | (simp only [Go.Proofs.YthgnbeeobhfeaaaW.PrintLast.putAll, Act.put, List.setIfInBounds_toArray, List.set_cons_zero, List.set_cons_succ]; rfl)) (hJ2_6_8_10 (mb, Ar, cr, Ap, cp, wz.heap.size) _ ⟨hHeld, below_then HB_.out HB_.out.size hb, HT.out.below hb, pw_own_below HR.out hb, (HP.out.elim fun vs h => ⟨vs, h.below hb⟩), ⟨heap_alloc_new _ _, Nat.lt_of_lt_of_le hwlt HB_.out.size⟩⟩)
          · skip
            refine value_ (w1 := ?_) (v := ?_) (by rfl) rfl ?_ ?_
            rotate_left 2
            · go_simp
              constructor
              · rfl
              · rfl
            have hb := below_alloc (Below.refl wz.heap.size wz) (Obj.cells (#[.pointer none] : Array Value) 73)
            refine hK.out _ _ ⟨hbody _ (below_then HB_.out HB_.out.size hb) 0 _ rfl, hbody _ (below_then HB_.out HB_.out.size hb) 1 _ rfl, hbody _ (below_then HB_.out HB_.out.size hb) 2 _ rfl, hbody _ (below_then HB_.out HB_.out.size hb) 3 _ rfl⟩ (fun hHeld => ?_)
            clear hK K
            refine norm_ (a' := ?_) ?_ ?_
            rotate_left
            · show Act.put _ (some 11) _ = _
              simp only [Act.put, List.setIfInBounds_toArray, List.set_cons_zero, List.set_cons_succ, i64_w, i32_w]
              rfl
            exact norm_ (by first | (simp only [Go.Proofs.YthgnbeeobhfeaaaW.PrintLast.putAll, Act.put, List.setIfInBounds_toArray, List.set_cons_zero, List.set_cons_succ]; done) | (simp only [Go.Proofs.YthgnbeeobhfeaaaW.PrintLast.putAll, Act.put, List.setIfInBounds_toArray, List.set_cons_zero, List.set_cons_succ]; rfl)) (hJ2_6_8_11 (mb, Ar, cr, Ap, cp, wz.heap.size) _ ⟨hHeld, below_then HB_.out HB_.out.size hb, HT.out.below hb, pw_own_below HR.out hb, (HP.out.elim fun vs h => ⟨vs, h.below hb⟩), ⟨heap_alloc_new _ _, Nat.lt_of_lt_of_le hwlt HB_.out.size⟩⟩)
      · skip
        rintro ⟨mb, Ar, cr, Ap, cp, gc⟩ wz ⟨hS_, h0_, h1_, h2_, h3_, h4_⟩
        clear HB_
        have HB_ : Hid (Below W.heap.size W wz) := Lib.hid h0_
        have HT : Hid (TabIs w wz w.heap.size mb cs) := Lib.hid h1_
        have HR : Hid (OB wz w.heap.size (.slice Ar (reachL (bksOf l03)).length cr) (reachL (bksOf l03))) := Lib.hid h2_
        have HP : Hid (∃ vs, RR wz w.heap.size 3 42 (fun _ => True) (.slice Ap l03.length cp) vs (((List.range l03.length).map (predsL (bksOf l03))).map (encs (Value.int .i64)))) := Lib.hid h3_
        have HX : Hid (BoxIs wz gc #[.pointer none] 73 ∧ w.heap.size < gc) := Lib.hid h4_
        clear h0_ h1_ h2_ h3_ h4_
        have hHeld : wz.cell? ⟨w.heap.size, 0, none⟩ = some (.string s) ∧ wz.cell? ⟨w.heap.size, 1, none⟩ = some (.int .i64 p) ∧ wz.cell? ⟨w.heap.size, 2, none⟩ = some (.slice A2 n2 c2) ∧ wz.cell? ⟨w.heap.size, 3, none⟩ = some (.slice A3 l03.length c3) := hS_
        refine norm_ (a' := ?_) ?_ ?_
        rotate_left
        · simp only [Go.Proofs.YthgnbeeobhfeaaaW.PrintLast.putAll, Act.put, List.setIfInBounds_toArray, List.set_cons_zero, List.set_cons_succ]
          rfl
        refine one_ (i := 10) (N := some 25) #[true, true, true, true, true, true, true, true, true, true, true, true, false] rfl rfl (by kernel_rfl) (by decide) (fun K hK => ?_)
        refine value_ (w1 := ?_) (v := ?_) (by rfl) rfl ?_ ?_
        rotate_left 2
        · go_simp
          constructor
          · rfl
          · rfl
        have hb := below_alloc (Below.refl wz.heap.size wz) (Obj.cells (#[.int .i64 (N : Int), .map (some mb), .string s, .int .i64 p, .slice A2 n2 c2, .slice A3 l03.length c3, .slice none 0 0, .bool every, .slice Ar (reachL (bksOf l03)).length cr, .slice Ap l03.length cp, .slice none 0 0] : Array Value) 79)
        refine hK.out _ _ ⟨hbody _ (below_then HB_.out HB_.out.size hb) 0 _ rfl, hbody _ (below_then HB_.out HB_.out.size hb) 1 _ rfl, hbody _ (below_then HB_.out HB_.out.size hb) 2 _ rfl, hbody _ (below_then HB_.out HB_.out.size hb) 3 _ rfl⟩ (fun hHeld => ?_)
        clear hK K
        refine norm_ (a' := ?_) ?_ ?_
        rotate_left
        · show Act.put _ (some 25) _ = _
          simp only [Act.put, List.setIfInBounds_toArray, List.set_cons_zero, List.set_cons_succ, i64_w, i32_w]
          rfl
        exact norm_ (by first | (simp only [Go.Proofs.YthgnbeeobhfeaaaW.PrintLast.putAll, Act.put, List.setIfInBounds_toArray, List.set_cons_zero, List.set_cons_succ]; done) | (simp only [Go.Proofs.YthgnbeeobhfeaaaW.PrintLast.putAll, Act.put, List.setIfInBounds_toArray, List.set_cons_zero, List.set_cons_succ]; rfl)) (hJ2_6_8_10_11 (mb, Ar, cr, Ap, cp, wz.heap.size, gc) _ ⟨hHeld, below_then HB_.out HB_.out.size hb, HT.out.below hb, pw_own_below HR.out hb, (HP.out.elim fun vs h => ⟨vs, h.below hb⟩), ⟨heap_alloc_new _ _, Nat.lt_of_lt_of_le hwlt HB_.out.size⟩, ⟨HX.out.1.below hb HX.out.1.lt, HX.out.2⟩⟩)
    · skip
      rintro ⟨mb, Ar, cr, Ap, cp, gf⟩ wz ⟨hS_, h0_, h1_, h2_, h3_, h4_⟩
      clear HB_
      have HB_ : Hid (Below W.heap.size W wz) := Lib.hid h0_
      have HT : Hid (TabIs w wz w.heap.size mb cs) := Lib.hid h1_
      have HR : Hid (OB wz w.heap.size (.slice Ar (reachL (bksOf l03)).length cr) (reachL (bksOf l03))) := Lib.hid h2_
      have HP : Hid (∃ vs, RR wz w.heap.size 3 42 (fun _ => True) (.slice Ap l03.length cp) vs (((List.range l03.length).map (predsL (bksOf l03))).map (encs (Value.int .i64)))) := Lib.hid h3_
      have HF : Hid (BoxIs wz gf #[.int .i64 (N : Int), .map (some mb), .string s, .int .i64 p, .slice A2 n2 c2, .slice A3 l03.length c3, .slice none 0 0, .bool every, .slice Ar (reachL (bksOf l03)).length cr, .slice Ap l03.length cp, .slice none 0 0] 79 ∧ w.heap.size < gf) := Lib.hid h4_
      clear h0_ h1_ h2_ h3_ h4_
      have hHeld : wz.cell? ⟨w.heap.size, 0, none⟩ = some (.string s) ∧ wz.cell? ⟨w.heap.size, 1, none⟩ = some (.int .i64 p) ∧ wz.cell? ⟨w.heap.size, 2, none⟩ = some (.slice A2 n2 c2) ∧ wz.cell? ⟨w.heap.size, 3, none⟩ = some (.slice A3 l03.length c3) := hS_
      refine norm_ (a' := ?_) ?_ ?_
      rotate_left
      · simp only [Go.Proofs.YthgnbeeobhfeaaaW.PrintLast.putAll, Act.put, List.setIfInBounds_toArray, List.set_cons_zero, List.set_cons_succ]
        rfl
      refine one_ (i := 11) (N := some 11) #[true, true, true, true, true, true, true, true, true, true, true, true, false] rfl rfl (by kernel_rfl) (by decide) (fun K hK => ?_)
      refine value_ (w1 := ?_) (v := ?_) (by rfl) rfl ?_ ?_
      rotate_left 2
      · go_simp
        constructor
        · rfl
        · rfl
      have hb := below_alloc (Below.refl wz.heap.size wz) (Obj.cells (#[.pointer none] : Array Value) 73)
      refine hK.out _ _ ⟨hbody _ (below_then HB_.out HB_.out.size hb) 0 _ rfl, hbody _ (below_then HB_.out HB_.out.size hb) 1 _ rfl, hbody _ (below_then HB_.out HB_.out.size hb) 2 _ rfl, hbody _ (below_then HB_.out HB_.out.size hb) 3 _ rfl⟩ (fun hHeld => ?_)
      clear hK K
      refine norm_ (a' := ?_) ?_ ?_
      rotate_left
      · show Act.put _ (some 11) _ = _
        simp only [Act.put, List.setIfInBounds_toArray, List.set_cons_zero, List.set_cons_succ, i64_w, i32_w]
        rfl
      exact norm_ (by first | (simp only [Go.Proofs.YthgnbeeobhfeaaaW.PrintLast.putAll, Act.put, List.setIfInBounds_toArray, List.set_cons_zero, List.set_cons_succ]; done) | (simp only [Go.Proofs.YthgnbeeobhfeaaaW.PrintLast.putAll, Act.put, List.setIfInBounds_toArray, List.set_cons_zero, List.set_cons_succ]; rfl)) (hJ2_6_8_10_11 (mb, Ar, cr, Ap, cp, gf, wz.heap.size) _ ⟨hHeld, below_then HB_.out HB_.out.size hb, HT.out.below hb, pw_own_below HR.out hb, (HP.out.elim fun vs h => ⟨vs, h.below hb⟩), ⟨HF.out.1.below hb HF.out.1.lt, HF.out.2⟩, ⟨heap_alloc_new _ _, Nat.lt_of_lt_of_le hwlt HB_.out.size⟩⟩)
  rintro ⟨mb, Ar, cr, Ap, cp, gf, gc⟩ wz ⟨hS_, h0_, h1_, h2_, h3_, h4_, h5_⟩
  clear HB_
  have HB_ : Hid (Below W.heap.size W wz) := Lib.hid h0_
  have HT : Hid (TabIs w wz w.heap.size mb cs) := Lib.hid h1_
  have HR : Hid (OB wz w.heap.size (.slice Ar (reachL (bksOf l03)).length cr) (reachL (bksOf l03))) := Lib.hid h2_
  have HP : Hid (∃ vs, RR wz w.heap.size 3 42 (fun _ => True) (.slice Ap l03.length cp) vs (((List.range l03.length).map (predsL (bksOf l03))).map (encs (Value.int .i64)))) := Lib.hid h3_
  have HF : Hid (BoxIs wz gf #[.int .i64 (N : Int), .map (some mb), .string s, .int .i64 p, .slice A2 n2 c2, .slice A3 l03.length c3, .slice none 0 0, .bool every, .slice Ar (reachL (bksOf l03)).length cr, .slice Ap l03.length cp, .slice none 0 0] 79 ∧ w.heap.size < gf) := Lib.hid h4_
  have HX : Hid (BoxIs wz gc #[.pointer none] 73 ∧ w.heap.size < gc) := Lib.hid h5_
  clear h0_ h1_ h2_ h3_ h4_ h5_
  have hHeld : wz.cell? ⟨w.heap.size, 0, none⟩ = some (.string s) ∧ wz.cell? ⟨w.heap.size, 1, none⟩ = some (.int .i64 p) ∧ wz.cell? ⟨w.heap.size, 2, none⟩ = some (.slice A2 n2 c2) ∧ wz.cell? ⟨w.heap.size, 3, none⟩ = some (.slice A3 l03.length c3) := hS_
  refine norm_ (a' := ?_) ?_ ?_
  rotate_left
  · simp only [Go.Proofs.YthgnbeeobhfeaaaW.PrintLast.putAll, Act.put, List.setIfInBounds_toArray, List.set_cons_zero, List.set_cons_succ]
    rfl
  refine last_ (i := 12) (N := none) #[true, true, true, true, true, true, true, true, true, true, true, true, true] rfl rfl (by kernel_rfl) (by decide) (fun K hK => ?_)
  have hfz := frozen_box HX.out.1 0
  have hcz := HX.out.1.cell 0 _ rfl
  refine skip_ (w1 := ?_) (by rfl) rfl ?_ ?_
  rotate_left
  · go_simp
    rfl
  refine hK.out _ _ ?_
  clear hK K
  refine done_ (by kernel_rfl) ?_
  refine hK _ _ ?_
  clear hK K
  have HFP : Hid (FPre w (wz.setCell ⟨gc, 0, none⟩ (.pointer (some ⟨gf, 0, none⟩))) gc gf mb N s p A2 n2 c2 A3 c3 l03 cs every Ar cr Ap cp (.slice none 0 0) (.slice none 0 0)) := Lib.hid (by
    have hst := set_typed HX.out.1 0 (.pointer (some ⟨gf, 0, none⟩))
    obtain ⟨vs, hp⟩ := HP.out
    have hlw : Below w.heap.size w wz := hwW.trans (HB_.out.mono hwW.size)
    exact ⟨HF.out.1.typed_move (by decide) hst, HT.out.typed (by decide) hst, hlw.grown (set_grown wz gc 0 _) hlw.size (fun k e => by injection e with e; have := HX.out.2; omega), own_typed_move HR.out (by decide) hst, ⟨vs, hp.typed_move (by decide) (by decide) hst⟩, set_block HX.out.1 _, (hbx.below HB_.out hbx.lt).typed_move (by decide) hst, HF.out.2, HX.out.2⟩)
  clear hHeld HB_ HT HR HP HF HX hwW hwlt hbx hbody
  generalize wz.setCell ⟨gc, 0, none⟩ (.pointer (some ⟨gf, 0, none⟩)) = W2 at *
  have hNle : N ≤ 1048576 := by omega
  have hN30 : N ≤ 30 := by omega
  go_wp2_with fail
  rename_i K hK
  refine start_ (n := 9) (S := fun w' => w'.cell? ⟨gc, 0, none⟩ = some (.pointer (some ⟨gf, 0, none⟩)) ∧ w'.cell? ⟨gf, 0, none⟩ = some (.int .i64 N) ∧ w'.cell? ⟨gf, 1, none⟩ = some (.map (some mb))) (ds := [8]) #[false, false, false, false, false, false, false, false, false] (by kernel_rfl) rfl rfl ⟨((HFP.out.below (below_drew (Below.refl _ _)))).box.cell 0 _ rfl, ((HFP.out.below (below_drew (Below.refl _ _)))).blk.cell 0 _ rfl, ((HFP.out.below (below_drew (Below.refl _ _)))).blk.cell 1 _ rfl⟩ (fun hHeld => ?_)
  refine take_ (i := 0) (N := some 26) (v := ?_) (a' := ?_) #[true, false, false, false, false, false, false, false, false] rfl rfl (by kernel_rfl) (fun _ _ _ h => h) (Or.inl ⟨by rfl, ?_⟩) hHeld ?_ ?_
  rotate_left
  · rintro w' ⟨s0, s1, s2⟩
    go_simp
    with_reducible rfl
  rotate_left
  · simp only [Act.put, List.setIfInBounds_toArray, List.set_cons_zero, List.set_cons_succ, i64_w, i32_w]
    rfl
  refine take_ (i := 1) (N := some 27) (v := ?_) (a' := ?_) #[true, true, false, false, false, false, false, false, false] rfl rfl (by kernel_rfl) (fun _ _ _ h => h) (Or.inl ⟨by rfl, ?_⟩) hHeld ?_ ?_
  rotate_left
  · rintro w' ⟨s0, s1, s2⟩
    go_simp
    with_reducible rfl
  rotate_left
  · simp only [Act.put, List.setIfInBounds_toArray, List.set_cons_zero, List.set_cons_succ, i64_w, i32_w]
    rfl
  refine pure_ (i := 2) (N := some 28) (v := ?_) (a' := ?_) #[true, true, true, false, false, false, false, false, false] rfl rfl (by kernel_rfl) (fun _ _ _ h => h) (Or.inl ⟨by rfl, ?_⟩) ?_ ?_
  rotate_left
  · intro w'
    go_simp
    with_reducible rfl
  rotate_left
  · simp only [Act.put, List.setIfInBounds_toArray, List.set_cons_zero, List.set_cons_succ, i64_w, i32_w]
    rfl
  refine pure_ (i := 3) (N := some 29) (v := ?_) (a' := ?_) #[true, true, true, true, false, false, false, false, false] rfl rfl (by kernel_rfl) (fun _ _ _ h => h) (Or.inl ⟨by rfl, ?_⟩) ?_ ?_
  rotate_left
  · intro w'
    go_simp
    with_reducible rfl
  rotate_left
  · simp only [Act.put, List.setIfInBounds_toArray, List.set_cons_zero, List.set_cons_succ, i64_w, i32_w]
    rfl
  refine take_ (i := 4) (N := some 30) (v := ?_) (a' := ?_) #[true, true, true, true, true, false, false, false, false] rfl rfl (by kernel_rfl) (fun _ _ _ h => h) (Or.inl ⟨by rfl, ?_⟩) hHeld ?_ ?_
  rotate_left
  · rintro w' ⟨s0, s1, s2⟩
    go_simp
    with_reducible rfl
  rotate_left
  · simp only [Act.put, List.setIfInBounds_toArray, List.set_cons_zero, List.set_cons_succ, i64_w, i32_w]
    rfl
  refine one_ (i := 5) (N := some 31) #[true, true, true, true, true, true, false, false, false] rfl rfl (by kernel_rfl) (by decide) (fun K hK => ?_)
  refine goes_ Try.func28 (by kernel_rfl) rfl #[.agg #[.int .i64 N, .map (some mb)], .bool false] (by rfl) rfl rfl (by simp only [List.map_toArray, List.map_cons, List.map_nil]; rfl) ?_
  with_reducible refine (flags_any _ N (some mb) false hNle).mono ?_
  rintro e w3 ⟨v3, rfl, ho3, hb3⟩
  obtain ⟨Af, cf, hvf⟩ := own_slice ho3
  rw [List.length_replicate] at hvf
  subst hvf
  refine ⟨_, rfl, ?_⟩
  have hb3' := below_then (below_drew (Below.refl W2.heap.size W2)) (Nat.le_refl _) hb3
  have HF3 := Lib.hid (HFP.out.below hb3')
  refine hK.out _ _ ⟨(HF3.out).box.cell 0 _ rfl, (HF3.out).blk.cell 0 _ rfl, (HF3.out).blk.cell 1 _ rfl⟩ (fun hHeld => ?_)
  clear hK K
  refine norm_ (a' := ?_) ?_ ?_
  rotate_left
  · show Act.put _ (some 31) _ = _
    simp only [Act.put, List.setIfInBounds_toArray, List.set_cons_zero, List.set_cons_succ, i64_w, i32_w]
    rfl
  refine pure_ (i := 6) (N := some 32) (v := ?_) (a' := ?_) #[true, true, true, true, true, true, true, false, false] rfl rfl (by kernel_rfl) (fun _ _ _ h => h) (Or.inl ⟨by rfl, ?_⟩) ?_ ?_
  rotate_left
  · intro w'
    go_simp
    with_reducible rfl
  rotate_left
  · simp only [Act.put, List.setIfInBounds_toArray, List.set_cons_zero, List.set_cons_succ, i64_w, i32_w]
    rfl
  refine pure_ (i := 7) (N := some 33) (v := ?_) (a' := ?_) #[true, true, true, true, true, true, true, true, false] rfl rfl (by kernel_rfl) (fun _ _ _ h => h) (Or.inl ⟨by rfl, ?_⟩) ?_ ?_
  rotate_left
  · intro w'
    go_simp
    with_reducible rfl
  rotate_left
  · simp only [Act.put, List.setIfInBounds_toArray, List.set_cons_zero, List.set_cons_succ, i64_w, i32_w]
    rfl
  refine last_ (i := 8) (N := none) #[true, true, true, true, true, true, true, true, true] rfl rfl (by kernel_rfl) (by decide) (fun K hK => ?_)
  have hfz := frozen_box HF3.out.blk 6
  have hcz := HF3.out.blk.cell 6 _ rfl
  refine skip_ (w1 := ?_) (by rfl) rfl ?_ ?_
  rotate_left
  · go_simp
    rfl
  refine hK.out _ _ ?_
  clear hK K
  refine done_ (by kernel_rfl) ?_
  refine hK _ _ ?_
  clear hK K
  have HFP3 := Lib.hid (HF3.out.setF (.slice Af N cf))
  have HO3 : Hid (OB (w3.setCell ⟨gf, 6, none⟩ (.slice Af N cf)) W2.heap.size (.slice Af N cf) (List.replicate N false)) := Lib.hid (own_typed_move (own_weaken ho3 (show W2.heap.size ≤ W2.drew.heap.size from Nat.le_refl _)) (by decide) (set_typed HF3.out.blk 6 _))
  have HSZ := Lib.hid HFP.out.low.size
  have HRL := Lib.hid (fun k e => own_lt HFP.out.rch k e)
  clear hHeld HFP HF3 ho3 hb3 hb3' hfz hcz
  generalize w3.setCell ⟨gf, 6, none⟩ (.slice Af N cf) = W3 at *
  have hc11 := HFP3.out.box.cell 0 _ rfl
  have hc6 := HFP3.out.blk.cell 6 _ rfl
  have h5m : l03.length ≤ 30 := (fewB_at hf).1
  go_wp2_with (first | (with_reducible refine copy_flags (o := ⟨some 39, _, _, _, _, _⟩) (v := .slice Af N cf) rfl (.tmp 37) (.tmp 38) rfl rfl rfl HO3.out (Kd.C_below HS.out HFP3.out.low) ?_; intro z w4 ho4 hg4; rw [overL_first] at ho4; have hty4 := grown_typed HO3.out hg4; have HFP4 := Lib.hid (HFP3.out.typed' (T := 4) (by decide) hty4 ((Below.refl _ _).grown hg4 HFP3.out.low.size (fun k e => Nat.le_trans HSZ.out (own_base HO3.out k e))) (own_other HFP3.out.rch hg4 (own_apart (fun k e => HRL.out k e) (fun k e => own_base HO3.out k e))) (HFP3.out.blk.typed_move (by decide) hty4)); have HO4 := Lib.hid (own_weaken ho4 HSZ.out); have hc3 := HFP4.out.bod.cell 3 _ rfl; clear hc11 hc6 ho4 hg4 hty4 HO3 HFP3 HSZ HRL))
  go_loopw [43] (fun u wr => ∃ (i : Nat) (Ao : Option Addr) (co : Nat) (vos : List Value), u = .int .i64 i ∧ i ≤ l03.length ∧ Hid (FPre w wr gc gf mb N s p A2 n2 c2 A3 c3 l03 cs every Ar cr Ap cp (.slice Af N cf) (.slice Ao i co)) ∧ Hid (OB wr w.heap.size (.slice Af N cf) (firstL N start)) ∧ Hid (wr.ownsRow w.heap.size 26 1 (.slice Ao i co) i vos) ∧ Hid (∀ u ∈ vos, OB wr w.heap.size u (List.replicate N every))) (fun u _ => l03.length - (intOf u).toNat)
  case atStart => exact ⟨0, none, 0, [], rfl, Nat.zero_le _, HFP4, HO4, Lib.hid (own_nil _ _ _ _), Lib.hid (fun u hu => by cases hu)⟩
  case round =>
    clear HFP4 HO4 hc3
    obtain ⟨i, Ao, co, vos, rfl, hi, HFP, HO4, HOO, HVO⟩ := hrel
    by_cases hlt : i < l03.length
    · go_wp2_with fail
      rename_i K hK
      refine start_ (n := 16) (S := fun w' => w'.cell? ⟨gc, 0, none⟩ = some (.pointer (some ⟨gf, 0, none⟩)) ∧ w'.cell? ⟨gf, 0, none⟩ = some (.int .i64 N) ∧ w'.cell? ⟨gf, 1, none⟩ = some (.map (some mb)) ∧ w'.cell? ⟨gf, 10, none⟩ = some (.slice Ao i co)) (ds := [15]) #[false, false, false, false, false, false, false, false, false, false, false, false, false, false, false, false] (by kernel_rfl) rfl rfl ⟨((HFP.out.below (below_drew (Below.refl _ _)))).box.cell 0 _ rfl, ((HFP.out.below (below_drew (Below.refl _ _)))).blk.cell 0 _ rfl, ((HFP.out.below (below_drew (Below.refl _ _)))).blk.cell 1 _ rfl, ((HFP.out.below (below_drew (Below.refl _ _)))).blk.cell 10 _ rfl⟩ (fun hHeld => ?_)
      refine pure_ (i := 9) (N := some 54) (v := ?_) (a' := ?_) #[false, false, false, false, false, false, false, false, false, true, false, false, false, false, false, false] rfl rfl (by kernel_rfl) (fun _ _ _ h => h) (Or.inl ⟨by rfl, ?_⟩) ?_ ?_
      rotate_left
      · intro w'
        go_simp
        with_reducible rfl
      rotate_left
      · simp only [Act.put, List.setIfInBounds_toArray, List.set_cons_zero, List.set_cons_succ, i64_w, i32_w]
        rfl
      refine take_ (i := 0) (N := some 45) (v := ?_) (a' := ?_) #[true, false, false, false, false, false, false, false, false, true, false, false, false, false, false, false] rfl rfl (by kernel_rfl) (fun _ _ _ h => h) (Or.inl ⟨by rfl, ?_⟩) hHeld ?_ ?_
      rotate_left
      · rintro w' ⟨s0, s1, s2, s3⟩
        go_simp
        with_reducible rfl
      rotate_left
      · simp only [Act.put, List.setIfInBounds_toArray, List.set_cons_zero, List.set_cons_succ, i64_w, i32_w]
        rfl
      refine take_ (i := 1) (N := some 46) (v := ?_) (a' := ?_) #[true, true, false, false, false, false, false, false, false, true, false, false, false, false, false, false] rfl rfl (by kernel_rfl) (fun _ _ _ h => h) (Or.inl ⟨by rfl, ?_⟩) hHeld ?_ ?_
      rotate_left
      · rintro w' ⟨s0, s1, s2, s3⟩
        go_simp
        with_reducible rfl
      rotate_left
      · simp only [Act.put, List.setIfInBounds_toArray, List.set_cons_zero, List.set_cons_succ, i64_w, i32_w]
        rfl
      refine pure_ (i := 2) (N := some 47) (v := ?_) (a' := ?_) #[true, true, true, false, false, false, false, false, false, true, false, false, false, false, false, false] rfl rfl (by kernel_rfl) (fun _ _ _ h => h) (Or.inl ⟨by rfl, ?_⟩) ?_ ?_
      rotate_left
      · intro w'
        go_simp
        with_reducible rfl
      rotate_left
      · simp only [Act.put, List.setIfInBounds_toArray, List.set_cons_zero, List.set_cons_succ, i64_w, i32_w]
        rfl
      refine pure_ (i := 3) (N := some 48) (v := ?_) (a' := ?_) #[true, true, true, true, false, false, false, false, false, true, false, false, false, false, false, false] rfl rfl (by kernel_rfl) (fun _ _ _ h => h) (Or.inl ⟨by rfl, ?_⟩) ?_ ?_
      rotate_left
      · intro w'
        go_simp
        with_reducible rfl
      rotate_left
      · simp only [Act.put, List.setIfInBounds_toArray, List.set_cons_zero, List.set_cons_succ, i64_w, i32_w]
        rfl
      refine take_ (i := 4) (N := some 49) (v := ?_) (a' := ?_) #[true, true, true, true, true, false, false, false, false, true, false, false, false, false, false, false] rfl rfl (by kernel_rfl) (fun _ _ _ h => h) (Or.inl ⟨by rfl, ?_⟩) hHeld ?_ ?_
      rotate_left
      · rintro w' ⟨s0, s1, s2, s3⟩
        go_simp
        with_reducible rfl
      rotate_left
      · simp only [Act.put, List.setIfInBounds_toArray, List.set_cons_zero, List.set_cons_succ, i64_w, i32_w]
        rfl
      refine take_ (i := 5) (N := some 50) (v := ?_) (a' := ?_) #[true, true, true, true, true, true, false, false, false, true, false, false, false, false, false, false] rfl rfl (by kernel_rfl) (fun _ _ _ h => h) (Or.inl ⟨by rfl, ?_⟩) hHeld ?_ ?_
      rotate_left
      · rintro w' ⟨s0, s1, s2, s3⟩
        go_simp
        with_reducible rfl
      rotate_left
      · simp only [Act.put, List.setIfInBounds_toArray, List.set_cons_zero, List.set_cons_succ, i64_w, i32_w]
        rfl
      refine pure_ (i := 6) (N := some 51) (v := ?_) (a' := ?_) #[true, true, true, true, true, true, true, false, false, true, false, false, false, false, false, false] rfl rfl (by kernel_rfl) (fun _ _ _ h => h) (Or.inl ⟨by rfl, ?_⟩) ?_ ?_
      rotate_left
      · intro w'
        go_simp
        with_reducible rfl
      rotate_left
      · simp only [Act.put, List.setIfInBounds_toArray, List.set_cons_zero, List.set_cons_succ, i64_w, i32_w]
        rfl
      refine pure_ (i := 7) (N := some 52) (v := ?_) (a' := ?_) #[true, true, true, true, true, true, true, true, false, true, false, false, false, false, false, false] rfl rfl (by kernel_rfl) (fun _ _ _ h => h) (Or.inl ⟨by rfl, ?_⟩) ?_ ?_
      rotate_left
      · intro w'
        go_simp
        with_reducible rfl
      rotate_left
      · simp only [Act.put, List.setIfInBounds_toArray, List.set_cons_zero, List.set_cons_succ, i64_w, i32_w]
        rfl
      refine take_ (i := 8) (N := some 53) (v := ?_) (a' := ?_) #[true, true, true, true, true, true, true, true, true, true, false, false, false, false, false, false] rfl rfl (by kernel_rfl) (fun _ _ _ h => h) (Or.inl ⟨by rfl, ?_⟩) hHeld ?_ ?_
      rotate_left
      · rintro w' ⟨s0, s1, s2, s3⟩
        go_simp
        with_reducible rfl
      rotate_left
      · simp only [Act.put, List.setIfInBounds_toArray, List.set_cons_zero, List.set_cons_succ, i64_w, i32_w]
        rfl
      refine one_ (i := 10) (N := some 55) #[true, true, true, true, true, true, true, true, true, true, true, false, false, false, false, false] rfl rfl (by kernel_rfl) (by decide) (fun K hK => ?_)
      refine goes_ Try.func28 (by kernel_rfl) rfl #[.agg #[.int .i64 N, .map (some mb)], .bool every] (by rfl) rfl rfl (by simp only [List.map_toArray, List.map_cons, List.map_nil]; rfl) ?_
      with_reducible refine (flags_any _ N (some mb) every hNle).mono ?_
      rintro e w5 ⟨v5, rfl, ho5, hb5⟩
      obtain ⟨Ax, cx, hvx⟩ := own_slice ho5
      rw [List.length_replicate] at hvx
      subst hvx
      refine ⟨_, rfl, ?_⟩
      have hb5' := below_then (below_drew (Below.refl wr.heap.size wr)) (Nat.le_refl _) hb5
      have HF5 := Lib.hid (HFP.out.below hb5')
      have HX5 := Lib.hid (own_weaken ho5 (Nat.le_trans HFP.out.low.size (Nat.le_refl _)))
      refine hK.out _ _ ⟨(HF5.out).box.cell 0 _ rfl, (HF5.out).blk.cell 0 _ rfl, (HF5.out).blk.cell 1 _ rfl, (HF5.out).blk.cell 10 _ rfl⟩ (fun hHeld => ?_)
      clear hK K
      refine norm_ (a' := ?_) ?_ ?_
      rotate_left
      · show Act.put _ (some 55) _ = _
        simp only [Act.put, List.setIfInBounds_toArray, List.set_cons_zero, List.set_cons_succ, i64_w, i32_w]
        rfl
      refine one_ (i := 11) (N := some 56) #[true, true, true, true, true, true, true, true, true, true, true, true, false, false, false, false] rfl rfl (by kernel_rfl) (by decide) (fun K hK => ?_)
      refine value_ (w1 := ?_) (v := ?_) (by rfl) rfl ?_ ?_
      rotate_left 2
      · go_simp
        constructor
        · rfl
        · rfl
      have HF6 := Lib.hid (HF5.out.below (below_alloc (Below.refl _ _) (.cells #[Value.slice Ax N cx] 26)))
      refine hK.out _ _ ⟨(HF6.out).box.cell 0 _ rfl, (HF6.out).blk.cell 0 _ rfl, (HF6.out).blk.cell 1 _ rfl, (HF6.out).blk.cell 10 _ rfl⟩ (fun hHeld => ?_)
      clear hK K
      refine norm_ (a' := ?_) ?_ ?_
      rotate_left
      · show Act.put _ (some 56) _ = _
        simp only [Act.put, List.setIfInBounds_toArray, List.set_cons_zero, List.set_cons_succ, i64_w, i32_w]
        rfl
      refine one_ (i := 12) (N := some 57) #[true, true, true, true, true, true, true, true, true, true, true, true, true, false, false, false] rfl rfl (by kernel_rfl) (by decide) (fun K hK => ?_)
      refine step_append_cells (W := w5) (w0 := w) w.heap.size (by rfl) (.tmp 49) (.tmp 56) 44 26 (.slice none 0 0) 1 24 rfl Try.underlying44 info26 rfl (by decide) (by decide) (.slice Ao i co) i vos [.slice Ax N cx] rfl rfl rfl (by simp [Value.oneCell']) (pw_own_below HOO.out hb5') HF5.out.low HF5.out.low.size (by omega) ?_
      intro u1 w7 ho7 hb7 hg7 hat7
      obtain ⟨A1, c1, rfl⟩ := own_slice ho7
      have hty7 := grown_typed (pw_own_below HOO.out hb5') hg7
      have hgf7 := HF5.out.blk.typed_move (by decide) hty7
      have HF7 := Lib.hid (HF5.out.typed (T := 26) (by decide) hty7 ((Below.refl _ _).grown hg7 HF5.out.low.size (fun k e => own_base HOO.out k e)) hgf7)
      refine hK.out _ _ ⟨(HF7.out).box.cell 0 _ rfl, (HF7.out).blk.cell 0 _ rfl, (HF7.out).blk.cell 1 _ rfl, (HF7.out).blk.cell 10 _ rfl⟩ (fun hHeld => ?_)
      clear hK K
      refine norm_ (a' := ?_) ?_ ?_
      rotate_left
      · show Act.put _ (some 57) _ = _
        simp only [Act.put, List.setIfInBounds_toArray, List.set_cons_zero, List.set_cons_succ, i64_w, i32_w]
        rfl
      refine pure_ (i := 13) (N := some 58) (v := ?_) (a' := ?_) #[true, true, true, true, true, true, true, true, true, true, true, true, true, true, false, false] rfl rfl (by kernel_rfl) (fun _ _ _ h => h) (Or.inl ⟨by rfl, ?_⟩) ?_ ?_
      rotate_left
      · intro w'
        go_simp
        with_reducible rfl
      rotate_left
      · simp only [Act.put, List.setIfInBounds_toArray, List.set_cons_zero, List.set_cons_succ, i64_w, i32_w]
        rfl
      refine pure_ (i := 14) (N := some 59) (v := ?_) (a' := ?_) #[true, true, true, true, true, true, true, true, true, true, true, true, true, true, true, false] rfl rfl (by kernel_rfl) (fun _ _ _ h => h) (Or.inl ⟨by rfl, ?_⟩) ?_ ?_
      rotate_left
      · intro w'
        go_simp
        with_reducible rfl
      rotate_left
      · simp only [Act.put, List.setIfInBounds_toArray, List.set_cons_zero, List.set_cons_succ, i64_w, i32_w]
        rfl
      refine last_ (i := 15) (N := none) #[true, true, true, true, true, true, true, true, true, true, true, true, true, true, true, true] rfl rfl (by kernel_rfl) (by decide) (fun K hK => ?_)
      have hfz := frozen_box HF7.out.blk 10
      have hcz := HF7.out.blk.cell 10 _ rfl
      refine skip_ (w1 := ?_) (by rfl) rfl ?_ ?_
      rotate_left
      · go_simp
        rfl
      refine hK.out _ _ ?_
      clear hK K
      refine done_ (by kernel_rfl) ?_
      refine hK _ _ ?_
      clear hK K
      have hty8 := set_typed HF7.out.blk 10 (.slice A1 (i + 1) c1)
      have HF8 := Lib.hid (HF7.out.setO (.slice A1 (i + 1) c1))
      have HO8 := Lib.hid (own_typed_move (T := 79) (own_typed_move (T := 26) (pw_own_below HO4.out hb5') (by decide) hty7) (by decide) hty8)
      have HOO8 := Lib.hid (own_typed_move (T := 79) ho7 (by decide) hty8)
      have HVO8 : Hid (∀ u ∈ vos ++ [Value.slice Ax N cx], OB (w7.setCell ⟨gf, 10, none⟩ (.slice A1 (i + 1) c1)) w.heap.size u (List.replicate N every)) := Lib.hid (fun u hu => by
        rcases List.mem_append.1 hu with hu | hu
        · exact own_typed_move (T := 79) (own_typed_move (T := 26) (pw_own_below (HVO.out u hu) hb5') (by decide) hty7) (by decide) hty8
        · rw [List.mem_singleton] at hu
          subst hu
          exact own_typed_move (T := 79) (own_typed_move (T := 26) HX5.out (by decide) hty7) (by decide) hty8)
      clear hHeld HFP HO4 HOO HVO HF5 HF6 HF7 HX5 hgf7 hty7 hat7 hg7 hb7 ho7 hb5' ho5 hb5 hfz hcz hty8
      generalize w7.setCell ⟨gf, 10, none⟩ (.slice A1 (i + 1) c1) = w8 at *
      go_wp2_with fail
      go_roundw
      case rel => exact ⟨i + 1, A1, c1, vos ++ [.slice Ax N cx], by go_num, by omega, HF8, HO8, HOO8, HVO8⟩
      case measure => simp [intOf]; omega
    · obtain rfl : i = l03.length := by omega
      clear hlt hi
      have hbl : (bksOf l03).length = l03.length := bksOf_length l03
      have hbm : (bksOf l03).length ≤ 1000 := by omega
      obtain ⟨Arr, crr, hrr, hrc, hRC⟩ := OB.reads HFP.out.rch
      injection hrr with e1 e2 e3
      subst e1
      subst e3
      clear e2
      have HRC := Lib.hid hRC
      clear hRC
      have hN1000 : N ≤ 1000 := by omega
      have hreI : ∀ x ∈ reachI (bksOf l03), 0 ≤ x ∧ x < (l03.length : Int) := fun x hx => by
        obtain ⟨n, rfl, hn⟩ := mem_reachI.1 hx
        have := hn.lt
        omega
      have hrl := reachI_le (bksOf l03)
      have hbeg1 : ∀ x ∈ putAll [] (reachI (bksOf l03)), ∃ n : Nat, x = n ∧ Rch (bksOf l03) n := fun x hx => by
        rcases putAll_mem.1 hx with h | h
        · cases h
        · exact mem_reachI.1 h
      have hbeg2 : ∀ i, Rch (bksOf l03) i → (i : Int) ∈ putAll [] (reachI (bksOf l03)) := fun i hi => putAll_mem.2 (.inr (mem_reachI.2 ⟨i, rfl, hi⟩))
      rcases Nat.eq_zero_or_pos l03.length with hm0 | hm0
      · obtain rfl : l03 = [] := List.eq_nil_of_length_eq_zero hm0
        have hre0 : reachI (bksOf ([] : List S58)) = [] := List.eq_nil_of_length_eq_zero (by omega)
        have hP0 : (fun (l : List Int) (_ : Nat → Unit) => l = []) (putAll [] (reachI (bksOf ([] : List S58)))) (fun _ => ()) := by rw [hre0]; rfl
        have hri : ∀ x ∈ reachI (bksOf ([] : List S58)), 0 ≤ x ∧ x < ((0 : Nat) : Int) := by rw [hre0]; exact fun x hx => by cases hx
        clear hm0 hreI hbeg1 hbeg2
        go_wp2_with fail
        rename_i K hK
        refine start_ (n := 11) (S := fun w' => w'.cell? ⟨gc, 0, none⟩ = some (.pointer (some ⟨gf, 0, none⟩)) ∧ w'.cell? ⟨gf, 10, none⟩ = some (.slice Ao 0 co) ∧ w'.cell? ⟨gf, 8, none⟩ = some (.slice Ar (reachL (bksOf ([] : List S58))).length cr)) (ds := [10]) #[false, false, false, false, false, false, false, false, false, false, false] (by kernel_rfl) rfl rfl ⟨((HFP.out.below (below_drew (Below.refl _ _)))).box.cell 0 _ rfl, ((HFP.out.below (below_drew (Below.refl _ _)))).blk.cell 10 _ rfl, ((HFP.out.below (below_drew (Below.refl _ _)))).blk.cell 8 _ rfl⟩ (fun hHeld => ?_)
        refine pure_ (i := 9) (N := some 70) (v := ?_) (a' := ?_) #[false, false, false, false, false, false, false, false, false, true, false] rfl rfl (by kernel_rfl) (fun _ _ _ h => h) (Or.inl ⟨by rfl, ?_⟩) ?_ ?_
        rotate_left
        · intro w'
          go_simp
          with_reducible rfl
        rotate_left
        · simp only [Act.put, List.setIfInBounds_toArray, List.set_cons_zero, List.set_cons_succ, i64_w, i32_w]
          rfl
        refine take_ (i := 0) (N := some 61) (v := ?_) (a' := ?_) #[true, false, false, false, false, false, false, false, false, true, false] rfl rfl (by kernel_rfl) (fun _ _ _ h => h) (Or.inl ⟨by rfl, ?_⟩) hHeld ?_ ?_
        rotate_left
        · rintro w' ⟨s0, s1, s2⟩
          go_simp
          with_reducible rfl
        rotate_left
        · simp only [Act.put, List.setIfInBounds_toArray, List.set_cons_zero, List.set_cons_succ, i64_w, i32_w]
          rfl
        refine pure_ (i := 1) (N := some 62) (v := ?_) (a' := ?_) #[true, true, false, false, false, false, false, false, false, true, false] rfl rfl (by kernel_rfl) (fun _ _ _ h => h) (Or.inl ⟨by rfl, ?_⟩) ?_ ?_
        rotate_left
        · intro w'
          go_simp
          with_reducible rfl
        rotate_left
        · simp only [Act.put, List.setIfInBounds_toArray, List.set_cons_zero, List.set_cons_succ, i64_w, i32_w]
          rfl
        refine pure_ (i := 2) (N := some 63) (v := ?_) (a' := ?_) #[true, true, true, false, false, false, false, false, false, true, false] rfl rfl (by kernel_rfl) (fun _ _ _ h => h) (Or.inl ⟨by rfl, ?_⟩) ?_ ?_
        rotate_left
        · intro w'
          go_simp
          with_reducible rfl
        rotate_left
        · simp only [Act.put, List.setIfInBounds_toArray, List.set_cons_zero, List.set_cons_succ, i64_w, i32_w]
          rfl
        refine take_ (i := 3) (N := some 64) (v := ?_) (a' := ?_) #[true, true, true, true, false, false, false, false, false, true, false] rfl rfl (by kernel_rfl) (fun _ _ _ h => h) (Or.inl ⟨by rfl, ?_⟩) hHeld ?_ ?_
        rotate_left
        · rintro w' ⟨s0, s1, s2⟩
          go_simp
          with_reducible rfl
        rotate_left
        · simp only [Act.put, List.setIfInBounds_toArray, List.set_cons_zero, List.set_cons_succ, i64_w, i32_w]
          rfl
        refine take_ (i := 4) (N := some 65) (v := ?_) (a' := ?_) #[true, true, true, true, true, false, false, false, false, true, false] rfl rfl (by kernel_rfl) (fun _ _ _ h => h) (Or.inl ⟨by rfl, ?_⟩) hHeld ?_ ?_
        rotate_left
        · rintro w' ⟨s0, s1, s2⟩
          go_simp
          with_reducible rfl
        rotate_left
        · simp only [Act.put, List.setIfInBounds_toArray, List.set_cons_zero, List.set_cons_succ, i64_w, i32_w]
          rfl
        refine pure_ (i := 5) (N := some 66) (v := ?_) (a' := ?_) #[true, true, true, true, true, true, false, false, false, true, false] rfl rfl (by kernel_rfl) (fun _ _ _ h => h) (Or.inl ⟨by rfl, ?_⟩) ?_ ?_
        rotate_left
        · intro w'
          go_simp
          with_reducible rfl
        rotate_left
        · simp only [Act.put, List.setIfInBounds_toArray, List.set_cons_zero, List.set_cons_succ, i64_w, i32_w]
          rfl
        refine pure_ (i := 6) (N := some 67) (v := ?_) (a' := ?_) #[true, true, true, true, true, true, true, false, false, true, false] rfl rfl (by kernel_rfl) (fun _ _ _ h => h) (Or.inl ⟨by rfl, ?_⟩) ?_ ?_
        rotate_left
        · intro w'
          go_simp
          with_reducible rfl
        rotate_left
        · simp only [Act.put, List.setIfInBounds_toArray, List.set_cons_zero, List.set_cons_succ, i64_w, i32_w]
          rfl
        refine take_ (i := 7) (N := some 68) (v := ?_) (a' := ?_) #[true, true, true, true, true, true, true, true, false, true, false] rfl rfl (by kernel_rfl) (fun _ _ _ h => h) (Or.inl ⟨by rfl, ?_⟩) hHeld ?_ ?_
        rotate_left
        · rintro w' ⟨s0, s1, s2⟩
          go_simp
          with_reducible rfl
        rotate_left
        · simp only [Act.put, List.setIfInBounds_toArray, List.set_cons_zero, List.set_cons_succ, i64_w, i32_w]
          rfl
        refine one_ (i := 8) (N := some 69) #[true, true, true, true, true, true, true, true, true, true, false] rfl rfl (by kernel_rfl) (by decide) (fun K hK => ?_)
        refine goes_ Try.func30 (by kernel_rfl) rfl #[.slice Ar (reachL (bksOf ([] : List S58))).length cr] (by rfl) rfl rfl (by simp only [List.map_toArray, List.map_cons, List.map_nil]; rfl) ?_
        with_reducible refine (reached_any Ar cr (bksOf ([] : List S58)) hbm _ (Kd.C_below HRC.out (below_drew (Below.refl _ _))) hrc).mono ?_
        rintro e w6 ⟨A6, c6, rfl, hl6, hC6, hb6, _⟩
        refine ⟨_, rfl, ?_⟩
        have hb6' := below_then (below_drew (Below.refl wr.heap.size wr)) (Nat.le_refl _) hb6
        have HF6 := Lib.hid (HFP.out.below hb6')
        refine hK.out _ _ ⟨(HF6.out).box.cell 0 _ rfl, (HF6.out).blk.cell 10 _ rfl, (HF6.out).blk.cell 8 _ rfl⟩ (fun hHeld => ?_)
        clear hK K
        refine norm_ (a' := ?_) ?_ ?_
        rotate_left
        · show Act.put _ (some 69) _ = _
          simp only [Act.put, List.setIfInBounds_toArray, List.set_cons_zero, List.set_cons_succ, i64_w, i32_w]
          rfl
        refine last_ (i := 10) (N := some 71) #[true, true, true, true, true, true, true, true, true, true, true] rfl rfl (by kernel_rfl) (by decide) (fun K hK => ?_)
        refine goes_ Try.func29 (by kernel_rfl) rfl #[.slice Ao 0 co, .slice A6 (reachI (bksOf ([] : List S58))).length c6, .func (.func 31) #[] #[], .func (.func 32) #[] #[.pointer (some ⟨gc, 0, none⟩), .pointer (some ⟨w.heap.size, 0, none⟩)]] (by rfl) rfl rfl (by simp only [List.map_toArray, List.map_cons, List.map_nil]; rfl) ?_
        have hset := settle_any (settle_empty (w := w6) _ rfl 0 gf (.pointer (some ⟨gc, 0, none⟩)) (.pointer (some ⟨w.heap.size, 0, none⟩))) way_empty (by omega) A6 c6 (reachI (bksOf ([] : List S58))) hC6 hl6 (by omega) hri (fun _ => ()) (Below.refl _ _) hP0 HF6.out.blk.lt (Nat.zero_le _) Ao (fun h => absurd h (by omega)) (capo := co)
        with_reducible refine hset.mono ?_
        rintro e w7 ⟨rfl, o', hSt, hPhi⟩
        refine ⟨_, rfl, ?_⟩
        refine hK.out _ _ ?_
        clear hK K
        refine norm_ (a' := ?_) ?_ ?_
        rotate_left
        · show Act.put _ (some 71) _ = _
          simp only [Act.put, List.setIfInBounds_toArray, List.set_cons_zero, List.set_cons_succ, i64_w, i32_w]
          rfl
        refine done_ (by kernel_rfl) ?_
        refine hK _ _ ?_
        clear hK K
        have HF7 := Lib.hid (HF6.out.below hSt)
        clear hHeld HO4 HFP HOO HVO HRC hset hSt hPhi HF6 hb6' hb6 hC6 hl6 hP0 hri
        have hc3 := HF7.out.bod.cell 3 _ rfl
        have hc11 := fun ob => pw_cell_below (below_alloc (Below.refl _ _) ob) (HF7.out.box.cell 0 _ rfl)
        have hc8 := fun ob => pw_cell_below (below_alloc (Below.refl _ _) ob) (HF7.out.blk.cell 8 _ rfl)
        have hmk0 : ∀ W : World, (Instr.makeSlice 31 (.int .i64 0) (.int .i64 0)).run Try.prog W = .ok (.slice (some ⟨W.heap.size, 0, none⟩) 0 0) (W.alloc (.cells (madeCells #[.slice none 0 0] 0) 44)) := fun W => run_make_row' (P := Try.prog) 31 44 (.slice none 0 0) 24 Try.underlying31 info44 rfl .i64 .i64 0 (by omega) (by omega) W
        go_wp2_with fail
        obtain ⟨Arr, crr, hrr, hrc', hRC⟩ := OB.reads HF7.out.rch
        injection hrr with e1 e2 e3
        subst e1
        subst e3
        clear e2 hrc'
        have hmade := own_made (W := w7) (B := w.heap.size) (m := 0) HF7.out.low.size (by omega)
        have HF8 := HF7.out.below (below_alloc (Below.refl _ _) (.cells (madeCells #[.slice none 0 0] 0) 44))
        have hRC8 := Kd.C_below hRC (below_alloc (Below.refl _ _) (.cells (madeCells #[.slice none 0 0] 0) 44))
        have hra := reached_any Ar cr (bksOf ([] : List S58)) hbm _ hRC8 hrc
        rw [hre0] at hra
        generalize hga : w7.heap.size = ga at *
        generalize w7.alloc (.cells (madeCells #[.slice none 0 0] 0) 44) = w8 at *
        refine hra.mono ?_
        rintro e w9 ⟨A9, c9, rfl, hl9, hC9, hb9, ho9⟩
        have HF9 := Lib.hid (HF8.below hb9)
        have HOW9 := Lib.hid (pw_own_below hmade hb9)
        clear hRC hRC8 hmade HF8 hb9 hC9 hc3 hc11 hc8 hmk0 HF7 hga ho9 hra hl9
        go_wp2_with fail
        go_loopw [82] (fun u wr => u = .int .i64 0 ∧ Hid (FPre w wr gc gf mb N s p A2 n2 c2 A3 c3 [] cs every Ar cr Ap cp (.slice Af N cf) (.slice Ao 0 co)) ∧ Hid (wr.ownsRow w.heap.size 44 1 (.slice (some ⟨ga, 0, none⟩) 0 0) 0 (List.replicate 0 (.slice none 0 0)))) (fun _ _ => 0)
        case atStart => exact ⟨rfl, HF9, HOW9⟩
        case round =>
          clear HF9 HOW9
          obtain ⟨rfl, HF9, HOW9⟩ := hrel
          go_wp2_with fail
          go_ret
          refine ⟨_, rfl, ⟨[], HOW9.out, rfl, fun i u xss hu => by cases hu⟩, HF9.out.low⟩
      · obtain ⟨go, co', hgo', hgo, hgl⟩ := HOO.out.form hm0
        injection hgo' with e1 e4 e3
        subst e1
        subst e3
        clear e4 hgl
        go_wp2_with fail
        rename_i K hK
        refine start_ (n := 11) (S := fun w' => w'.cell? ⟨gc, 0, none⟩ = some (.pointer (some ⟨gf, 0, none⟩)) ∧ w'.cell? ⟨gf, 10, none⟩ = some (.slice (some ⟨go, 0, none⟩) l03.length co) ∧ w'.cell? ⟨gf, 8, none⟩ = some (.slice Ar (reachL (bksOf l03)).length cr)) (ds := [10]) #[false, false, false, false, false, false, false, false, false, false, false] (by kernel_rfl) rfl rfl ⟨((HFP.out.below (below_drew (Below.refl _ _)))).box.cell 0 _ rfl, ((HFP.out.below (below_drew (Below.refl _ _)))).blk.cell 10 _ rfl, ((HFP.out.below (below_drew (Below.refl _ _)))).blk.cell 8 _ rfl⟩ (fun hHeld => ?_)
        refine pure_ (i := 9) (N := some 70) (v := ?_) (a' := ?_) #[false, false, false, false, false, false, false, false, false, true, false] rfl rfl (by kernel_rfl) (fun _ _ _ h => h) (Or.inl ⟨by rfl, ?_⟩) ?_ ?_
        rotate_left
        · intro w'
          go_simp
          with_reducible rfl
        rotate_left
        · simp only [Act.put, List.setIfInBounds_toArray, List.set_cons_zero, List.set_cons_succ, i64_w, i32_w]
          rfl
        refine take_ (i := 0) (N := some 61) (v := ?_) (a' := ?_) #[true, false, false, false, false, false, false, false, false, true, false] rfl rfl (by kernel_rfl) (fun _ _ _ h => h) (Or.inl ⟨by rfl, ?_⟩) hHeld ?_ ?_
        rotate_left
        · rintro w' ⟨s0, s1, s2⟩
          go_simp
          with_reducible rfl
        rotate_left
        · simp only [Act.put, List.setIfInBounds_toArray, List.set_cons_zero, List.set_cons_succ, i64_w, i32_w]
          rfl
        refine pure_ (i := 1) (N := some 62) (v := ?_) (a' := ?_) #[true, true, false, false, false, false, false, false, false, true, false] rfl rfl (by kernel_rfl) (fun _ _ _ h => h) (Or.inl ⟨by rfl, ?_⟩) ?_ ?_
        rotate_left
        · intro w'
          go_simp
          with_reducible rfl
        rotate_left
        · simp only [Act.put, List.setIfInBounds_toArray, List.set_cons_zero, List.set_cons_succ, i64_w, i32_w]
          rfl
        refine pure_ (i := 2) (N := some 63) (v := ?_) (a' := ?_) #[true, true, true, false, false, false, false, false, false, true, false] rfl rfl (by kernel_rfl) (fun _ _ _ h => h) (Or.inl ⟨by rfl, ?_⟩) ?_ ?_
        rotate_left
        · intro w'
          go_simp
          with_reducible rfl
        rotate_left
        · simp only [Act.put, List.setIfInBounds_toArray, List.set_cons_zero, List.set_cons_succ, i64_w, i32_w]
          rfl
        refine take_ (i := 3) (N := some 64) (v := ?_) (a' := ?_) #[true, true, true, true, false, false, false, false, false, true, false] rfl rfl (by kernel_rfl) (fun _ _ _ h => h) (Or.inl ⟨by rfl, ?_⟩) hHeld ?_ ?_
        rotate_left
        · rintro w' ⟨s0, s1, s2⟩
          go_simp
          with_reducible rfl
        rotate_left
        · simp only [Act.put, List.setIfInBounds_toArray, List.set_cons_zero, List.set_cons_succ, i64_w, i32_w]
          rfl
        refine take_ (i := 4) (N := some 65) (v := ?_) (a' := ?_) #[true, true, true, true, true, false, false, false, false, true, false] rfl rfl (by kernel_rfl) (fun _ _ _ h => h) (Or.inl ⟨by rfl, ?_⟩) hHeld ?_ ?_
        rotate_left
        · rintro w' ⟨s0, s1, s2⟩
          go_simp
          with_reducible rfl
        rotate_left
        · simp only [Act.put, List.setIfInBounds_toArray, List.set_cons_zero, List.set_cons_succ, i64_w, i32_w]
          rfl
        refine pure_ (i := 5) (N := some 66) (v := ?_) (a' := ?_) #[true, true, true, true, true, true, false, false, false, true, false] rfl rfl (by kernel_rfl) (fun _ _ _ h => h) (Or.inl ⟨by rfl, ?_⟩) ?_ ?_
        rotate_left
        · intro w'
          go_simp
          with_reducible rfl
        rotate_left
        · simp only [Act.put, List.setIfInBounds_toArray, List.set_cons_zero, List.set_cons_succ, i64_w, i32_w]
          rfl
        refine pure_ (i := 6) (N := some 67) (v := ?_) (a' := ?_) #[true, true, true, true, true, true, true, false, false, true, false] rfl rfl (by kernel_rfl) (fun _ _ _ h => h) (Or.inl ⟨by rfl, ?_⟩) ?_ ?_
        rotate_left
        · intro w'
          go_simp
          with_reducible rfl
        rotate_left
        · simp only [Act.put, List.setIfInBounds_toArray, List.set_cons_zero, List.set_cons_succ, i64_w, i32_w]
          rfl
        refine take_ (i := 7) (N := some 68) (v := ?_) (a' := ?_) #[true, true, true, true, true, true, true, true, false, true, false] rfl rfl (by kernel_rfl) (fun _ _ _ h => h) (Or.inl ⟨by rfl, ?_⟩) hHeld ?_ ?_
        rotate_left
        · rintro w' ⟨s0, s1, s2⟩
          go_simp
          with_reducible rfl
        rotate_left
        · simp only [Act.put, List.setIfInBounds_toArray, List.set_cons_zero, List.set_cons_succ, i64_w, i32_w]
          rfl
        refine one_ (i := 8) (N := some 69) #[true, true, true, true, true, true, true, true, true, true, false] rfl rfl (by kernel_rfl) (by decide) (fun K hK => ?_)
        refine goes_ Try.func30 (by kernel_rfl) rfl #[.slice Ar (reachL (bksOf l03)).length cr] (by rfl) rfl rfl (by simp only [List.map_toArray, List.map_cons, List.map_nil]; rfl) ?_
        with_reducible refine (reached_any Ar cr (bksOf l03) hbm _ (Kd.C_below HRC.out (below_drew (Below.refl _ _))) hrc).mono ?_
        rintro e w6 ⟨A6, c6, rfl, hl6, hC6, hb6, _⟩
        refine ⟨_, rfl, ?_⟩
        have hb6' := below_then (below_drew (Below.refl wr.heap.size wr)) (Nat.le_refl _) hb6
        have HF6 := Lib.hid (HFP.out.below hb6')
        refine hK.out _ _ ⟨(HF6.out).box.cell 0 _ rfl, (HF6.out).blk.cell 10 _ rfl, (HF6.out).blk.cell 8 _ rfl⟩ (fun hHeld => ?_)
        clear hK K
        refine norm_ (a' := ?_) ?_ ?_
        rotate_left
        · show Act.put _ (some 69) _ = _
          simp only [Act.put, List.setIfInBounds_toArray, List.set_cons_zero, List.set_cons_succ, i64_w, i32_w]
          rfl
        refine last_ (i := 10) (N := some 71) #[true, true, true, true, true, true, true, true, true, true, true] rfl rfl (by kernel_rfl) (by decide) (fun K hK => ?_)
        refine goes_ Try.func29 (by kernel_rfl) rfl #[.slice (some ⟨go, 0, none⟩) l03.length co, .slice A6 (reachI (bksOf l03)).length c6, .func (.func 31) #[] #[], .func (.func 32) #[] #[.pointer (some ⟨gc, 0, none⟩), .pointer (some ⟨w.heap.size, 0, none⟩)]] (by rfl) rfl rfl (by simp only [List.map_toArray, List.map_cons, List.map_nil]; rfl) ?_
        have hset := flow_settle (w := w) (gc := gc) (gf := gf) (mb := mb) (s := s) (p := p) (A2 := A2) (n2 := n2) (c2 := c2) (c3 := c3) (every := every) (vf := .slice Af N cf) (start := start) (go := go) (capo := co) (vr := .slice Ar (reachL (bksOf l03)).length cr) (vp := .slice Ap l03.length cp) (B0 := w6.heap.size) HC.out hf hN1000 hcf
        have hwh := HF6.out.whole (start := start) (vos := vos) (pw_own_below HO4.out hb6') (pw_own_below HOO.out hb6') (fun u hu => pw_own_below (HVO.out u hu) hb6')
        with_reducible refine (settle_any hset (flow_way' (bksOf l03) (chsOf cs) N start every hbl) (by omega) A6 c6 (reachI (bksOf l03)) hC6 hl6 (by omega) hreI (fun _ => List.replicate N every) hwh (FPhi.begin hbeg1 hbeg2) (own_lt hwh.flow.out.choose_spec.1 go rfl) hgo (some ⟨go, 0, none⟩) (fun _ => rfl)).mono ?_
        rintro e w7 ⟨rfl, o', hSt, hPhi⟩
        refine ⟨_, rfl, ?_⟩
        refine hK.out _ _ ?_
        clear hK K
        refine norm_ (a' := ?_) ?_ ?_
        rotate_left
        · show Act.put _ (some 71) _ = _
          simp only [Act.put, List.setIfInBounds_toArray, List.set_cons_zero, List.set_cons_succ, i64_w, i32_w]
          rfl
        refine done_ (by kernel_rfl) ?_
        refine hK _ _ ?_
        clear hK K
        have HST := Lib.hid hSt
        have HPH := Lib.hid hPhi
        clear hHeld HO4 HFP HOO HVO HRC hset hwh hSt hPhi HF6 hb6' hb6 hC6 hl6
        have hc3 := HST.out.bod.cell 3 _ rfl
        have hc11 := fun ob => pw_cell_below (below_alloc (Below.refl _ _) ob) (HST.out.box.cell 0 _ rfl)
        have hc8 := fun ob => pw_cell_below (below_alloc (Below.refl _ _) ob) (HST.out.flow.blk.cell 8 _ rfl)
        have hmk := run_make_row' (P := Try.prog) 31 44 (.slice none 0 0) 24 Try.underlying31 info44 rfl .i64 .i64 l03.length (by omega) (by omega)
        go_wp2_with fail
        obtain ⟨Arr, crr, hrr, hrc', hRC⟩ := OB.reads HST.out.flow.rch
        injection hrr with e1 e2 e3
        subst e1
        subst e3
        clear e2 hrc'
        have hlow7 := HST.out.flow.low
        have hmade := own_made (W := w7) (B := w.heap.size) (m := l03.length) hlow7.size (by omega)
        have HS8 := HST.out.below (below_alloc (Below.refl _ _) (.cells (madeCells #[.slice none 0 0] l03.length) 44))
        have hRC8 := Kd.C_below hRC (below_alloc (Below.refl _ _) (.cells (madeCells #[.slice none 0 0] l03.length) 44))
        generalize hga : w7.heap.size = ga at *
        generalize w7.alloc (.cells (madeCells #[.slice none 0 0] l03.length) 44) = w8 at *
        refine (reached_any Ar cr (bksOf l03) hbm _ hRC8 hrc).mono ?_
        rintro e w9 ⟨A9, c9, rfl, hl9, hC9, hb9, ho9⟩
        have HC9 := Lib.hid (own_weaken ho9 (Nat.zero_le _))
        have HFS9 := Lib.hid (HS8.below hb9)
        have HOW9 := Lib.hid (pw_own_below hmade hb9)
        have hmb := hf
        have HFEW := Lib.hid (fewB_at hf).2
        have HGA : Hid (w.heap.size ≤ ga) := Lib.hid (by rw [← hga]; exact hlow7.size)
        clear hRC hRC8 hmade HS8 hb9 hC9 ho9 hc3 hc11 hc8 hmk HST hlow7 hga hmb
        go_wp2_with fail
        go_loopw [82] (fun u wr => ∃ (j : Nat) (vs : List Value), u = .int .i64 j ∧ j ≤ (reachI (bksOf l03)).length ∧ Hid (FlowSt w w6.heap.size gf gc w.heap.size mb N s p A2 n2 c2 A3 c3 l03 cs (firstL N start) every (.slice Af N cf) (.slice Ar (reachL (bksOf l03)).length cr) (.slice Ap l03.length cp) go co o' wr) ∧ Hid (wr.ownsRow w.heap.size 44 1 (.slice (some ⟨ga, 0, none⟩) l03.length l03.length) l03.length vs) ∧ Hid (∀ (i : Nat) (u : Value), vs[i]? = some u → N2 wr w.heap.size u (rowAt (bksOf l03) (chsOf cs) N start every ((reachI (bksOf l03)).take j) i)) ∧ Hid (wr.ownsRow 0 3 1 (.slice A9 (reachI (bksOf l03)).length c9) (reachI (bksOf l03)).length (encs (Value.int .i64) (reachI (bksOf l03))))) (fun u _ => (reachI (bksOf l03)).length - (intOf u).toNat)
        case atStart => exact ⟨0, _, rfl, Nat.zero_le _, HFS9, HOW9, Lib.hid (fun i u hu => by
          obtain rfl := List.eq_of_mem_replicate (List.mem_of_getElem? hu)
          rw [List.take_zero, rowAt_nil]
          exact ⟨[], own_nil _ _ _ _, rfl, fun i u xs hu => by cases hu⟩), HC9⟩
        case round =>
          clear HFS9 HOW9 HC9
          obtain ⟨j, vs, rfl, hj, HFS, HOW, HVS, HBE⟩ := hrel
          by_cases hlt : j < (reachI (bksOf l03)).length
          · obtain ⟨q, hq, hrq⟩ := mem_reachI.1 (List.getElem_mem hlt)
            have hql : q < l03.length := by have := hrq.lt; omega
            have hqb := HFEW.out _ (List.getElem_mem hql)
            have he : rd_T58 l03 q = l03[q] := by simp [rd_T58, List.getElem?_eq_getElem hql, List.getD_eq_getElem?_getD]
            have hsts := states_any HFS.out.flow hN1000 firstL_length HFS.out.len q hql (by omega) HC.out hcf (by rw [he]; omega)
            rw [HPH.out.done hrq, ← show ((bksOf l03)[q]?.map Bk.ins).getD 0 = (rd_T58 l03 q).f0.length by rw [rd_T58_get hql]; rfl] at hsts
            have HSTS := Lib.hid hsts
            have htk : Hid ((reachI (bksOf l03)).take (j + 1) = (reachI (bksOf l03)).take j ++ [(q : Int)]) := Lib.hid (by rw [List.take_succ, List.getElem?_eq_getElem hlt, hq]; rfl)
            obtain ⟨ad, had, hac⟩ := Kd.at_int (own_int_C HBE.out) (j : Int) (by omega) (by omega)
            rw [rd_nat, Int.toNat_natCast, show (reachI (bksOf l03)).getD j 0 = (q : Int) by rw [List.getD_eq_getElem?_getD, List.getElem?_eq_getElem hlt, hq]; rfl] at hac
            subst had
            have hgc := HFS.out.box.cell 0 _ rfl
            have p0 : ((0 : Int) ≤ (q : Int)) = True := eq_true (by omega)
            have p1 : ((q : Int) < (l03.length : Int)) = True := eq_true (by omega)
            clear hsts hq hqb he
            go_wp2_with fail
            refine HSTS.out.mono ?_
            rintro e w10 ⟨v10, rfl, hN10, hb10⟩
            obtain ⟨A10, L10, d10, rfl⟩ : ∃ A n c, v10 = .slice A n c := by obtain ⟨A, c, h⟩ := hN10.slice; exact ⟨A, _, c, h⟩
            have HFS10 := Lib.hid (HFS.out.below hb10)
            have hOW10 := pw_own_below HOW.out hb10
            obtain ⟨cg, hcg⟩ := own_typed hOW10 ga rfl
            have hfz : w10.frozen? ⟨ga, q, none⟩ = false := frozen_box (g := ga) hcg q
            obtain ⟨uo, huo⟩ : ∃ u, vs[q]? = some u := ⟨_, List.getElem?_eq_getElem (by have := HOW.out.1; omega)⟩
            have hco := hOW10.cells (g := ga) rfl q uo huo
            rw [add_plain] at hco
            have HST11 := Lib.hid (fun u => set_typed (W := w10) (g := ga) hcg q u)
            have HOW11 := Lib.hid (fun u => (hOW10.stored q u).1)
            have HBE11 := Lib.hid (pw_own_below HBE.out hb10)
            have HN10 := Lib.hid (hN10.weaken HFS.out.flow.low.size)
            have HVS10 := Lib.hid (fun (i : Nat) (u : Value) (hu : vs[i]? = some u) => (HVS.out i u hu).below hb10)
            clear hOW10 hcg hN10 hb10 hgc hac HSTS
            go_wp2_with fail
            go_roundw
            case rel =>
              have hst := HST11.out (.slice A10 L10 d10)
              have hbb : Below w.heap.size w10 _ := (Below.refl _ _).grown (set_grown w10 ga q (.slice A10 L10 d10)) HFS10.out.flow.low.size (fun k e => by injection e with e; rw [← e]; exact HGA.out)
              refine ⟨j + 1, vs.set q (.slice A10 L10 d10), by go_num, by omega, Lib.hid (HFS10.out.stays (T := 44) (by decide) hst hbb), Lib.hid (by have := HOW11.out (.slice A10 L10 d10); exact this), Lib.hid (fun i u hu => ?_), Lib.hid (own_typed_move (T := 44) HBE11.out (by decide) hst)⟩
              · rw [htk.out]
                by_cases hqi : q = i
                · subst hqi
                  rw [List.getElem?_set_self (by have := HOW.out.1; omega)] at hu
                  injection hu with hu
                  subst hu
                  rw [rowAt_new]
                  exact HN10.out.stays (T := 44) (by decide) hst
                · rw [List.getElem?_set_ne hqi] at hu
                  rw [rowAt_old _ _ _ _ _ _ hqi]
                  exact (HVS10.out i u hu).stays (T := 44) (by decide) hst
            case measure => simp [intOf]; omega
          · obtain rfl : j = (reachI (bksOf l03)).length := by omega
            rw [List.take_length] at HVS
            clear hlt hj
            go_wp2_with fail
            go_ret
            have hl := HOW.out.1
            rw [Nat.mul_one] at hl
            refine ⟨_, rfl, ⟨vs, by rw [hl]; exact HOW.out, by rw [hl]; simp [flowL, hbl], fun i u xss hu hx => ?_⟩, HFS.out.flow.low⟩
            have hi : i < l03.length := by rw [← hl]; exact (List.getElem?_eq_some_iff.1 hu).1
            have := HVS.out i u hu
            rw [hN] at hx
            rwa [flowL_at (by omega) hx] at this
end Go.Proofs.Ythgnbeeobhfeaaa.T
end

section
/- Walks: what a look back looks at (the program's). -/
namespace Go.Proofs.Ythgnbeeobhfeaaa.T
open Go.RowKit Go.Shelf Go.Proofs.YthgnbeeobhfeaaaW.PrintWords Go.Proofs.YthgnbeeobhfeaaaW.PrintLast

/-- A call of a function's value, with what it has captured, in a region that draws its order. -/
theorem goesC_ {P : Program} {ops : Array Oper} {Q : Exit → Act → World → Prop} {oi : Oper} {N : Option Tmp} {a : Act} {w : World} {K : Act → World → Prop} {f : FuncId} {fn : Func} {as_ : Array Operand} {ts : Array TypeId} {t : Tmp} (hf : P.funcs[f]? = some fn) (hname : (fn.name == "runtime.NumGoroutine") = false) (hb : fn.body.isSome = true) (caps args : Array Value)
    (hw : Region.wanted oi (yielded ops a.tmps) = true) (hN : oi.dst = N) (hop : oi.op = .call { callee := .value (.tmp t), args := as_, argTypes := ts }) (hv : a.eval (.tmp t) = .func (.func f) #[] caps) (hargs : as_.map a.eval = args)
    (h : Calls P f (args ++ caps) w fun e w' => ∃ v, e = .returned v ∧ K (a.put N v) w') : if Region.wanted oi (yielded ops a.tmps) = true then Oper.wp P oi a w K Q else K (a.put N undef) w := by
  refine call_ f (args ++ caps) hw hN ?_ h
  have he := enters_ hf hname hb (args ++ caps) w
  unfold execOp
  have hv' : a.eval (.tmp t) = .func (.func f) #[] caps := hv
  simp [hop, resolve, Deferred.ofValue, invoke, hv', hargs, he]

/-- What is known between two looks: with the boxes of the closure (gs) and of the row of forerunners (gp). -/
structure BkSt (w0 : World) (B0 gt gbb ga gs gp gpr cp go mb N : Nat) (s : ByteArray) (p : Int) (A2 : Option Addr) (n2 c2 : Nat) (A3 : Option Addr) (c3 : Nat) (l03 : List S58) (cs : List S66) (o : Nat → List (List Bool)) (W : World) : Prop where
  at_ : BkAt w0 W gt gbb ga go mb N s p A2 n2 c2 A3 c3 l03 cs o
  sts : BoxIs W gs #[.func (.func 38) #[] #[.pointer (some ⟨gt, 0, none⟩), .pointer (some ⟨gbb, 0, none⟩), .pointer (some ⟨ga, 0, none⟩)]] 84
  pbx : BoxIs W gp #[.slice (some ⟨gpr, 0, none⟩) l03.length cp] 39
  prd : ∃ (Wb : World) (vs : List Value), Below Wb.heap.size Wb W ∧ Wb.heap.size ≤ go ∧ w0.heap.size ≤ Wb.heap.size ∧ RR Wb w0.heap.size 3 42 (fun _ => True) (.slice (some ⟨gpr, 0, none⟩) l03.length cp) vs (((List.range l03.length).map (predsL (bksOf l03))).map (encs (Value.int .i64)))
  hmb : mb < B0
  hgo : go < B0
  hw0 : w0.heap.size ≤ B0
section
variable {w0 : World} {B0 gt gbb ga gs gp gpr cp go mb N : Nat} {s : ByteArray} {p : Int} {A2 : Option Addr} {n2 c2 : Nat} {A3 : Option Addr} {c3 : Nat} {l03 : List S58} {cs : List S66} {o : Nat → List (List Bool)} {W W' : World}
theorem BkSt.below (h : BkSt w0 B0 gt gbb ga gs gp gpr cp go mb N s p A2 n2 c2 A3 c3 l03 cs o W) (hb : Below W.heap.size W W') : BkSt w0 B0 gt gbb ga gs gp gpr cp go mb N s p A2 n2 c2 A3 c3 l03 cs o W' := by
  obtain ⟨Wb, vs, h1, h2, h3, h4⟩ := h.prd
  exact ⟨h.at_.below hb, h.sts.below hb h.sts.lt, h.pbx.below hb h.pbx.lt, ⟨Wb, vs, below_then h1 h1.size hb, h2, h3, h4⟩, h.hmb, h.hgo, h.hw0⟩
theorem BkSt.queue (h : BkSt w0 B0 gt gbb ga gs gp gpr cp go mb N s p A2 n2 c2 A3 c3 l03 cs o W) (hb : Below B0 W W') (hty : ∀ k, k < W.heap.size → (∃ c t, W.heap[k]? = some (.cells c t (0, 0)) ∧ t ≠ 3 ∧ t ≠ 105) → W'.heap[k]? = W.heap[k]?) : BkSt w0 B0 gt gbb ga gs gp gpr cp go mb N s p A2 n2 c2 A3 c3 l03 cs o W' := by
  obtain ⟨Wb, vs, h1, h2, h3, h4⟩ := h.prd
  have bx : ∀ {k : Nat} {c : Array Value} {t : TypeId}, BoxIs W k c t → t ≠ 3 → t ≠ 105 → BoxIs W' k c t := fun hbx t1 t2 => (hty _ hbx.lt ⟨_, _, hbx, t1, t2⟩).trans hbx
  obtain ⟨n0, f, hM, hT⟩ := h.at_.tab
  obtain ⟨us, g1, g2⟩ := h.at_.row
  have hgo := h.hgo
  refine ⟨⟨bx h.at_.tb (by decide) (by decide), bx h.at_.bod (by decide) (by decide), bx h.at_.all (by decide) (by decide), ⟨n0, f, hM.move (hb.block _ h.hmb), hT.move (fun k c hk => hty k (Array.getElem?_eq_some_iff.1 hk).1 ⟨c, 66, hk, by decide, by decide⟩)⟩, h.at_.low.trans (hb.mono h.hw0), ⟨us, own_move g1 (fun k e => ?_), fun i u hu => (g2 i u hu).move (fun k t c _ ht hk => hty k (Array.getElem?_eq_some_iff.1 hk).1 ⟨c, t, hk, by rcases ht with rfl | rfl <;> decide, by rcases ht with rfl | rfl <;> decide⟩)⟩, h.at_.shp⟩, bx h.sts (by decide) (by decide), bx h.pbx (by decide) (by decide), ⟨Wb, vs, h1.trans (hb.mono (by omega)), h2, h3, h4⟩, h.hmb, h.hgo, h.hw0⟩
  obtain ⟨c, hc⟩ := own_typed g1 k e
  exact hty k (own_lt g1 k e) ⟨c, 44, hc, by decide, by decide⟩
theorem BkSt.get (h : BkSt w0 B0 gt gbb ga gs gp gpr cp go mb N s p A2 n2 c2 A3 c3 l03 cs o W) {n : Nat} (hn : n < l03.length) : ∃ u, W.cell? ⟨go, n, none⟩ = some u ∧ N2 W w0.heap.size u (o n) := by
  obtain ⟨us, g1, g2⟩ := h.at_.row
  have := g1.1
  obtain ⟨u, hu⟩ : ∃ u, us[n]? = some u := ⟨_, List.getElem?_eq_getElem (by omega)⟩
  have hc := g1.cells (g := go) rfl n u hu
  rw [add_plain] at hc
  exact ⟨u, hc, g2 n u hu⟩
theorem BkSt.store (h : BkSt w0 B0 gt gbb ga gs gp gpr cp go mb N s p A2 n2 c2 A3 c3 l03 cs o W) {n : Nat} {u : Value} {x : List (List Bool)} (hn : n < l03.length) (hu : N2 W w0.heap.size u x) (hx : Shp N x) : BkSt w0 B0 gt gbb ga gs gp gpr cp go mb N s p A2 n2 c2 A3 c3 l03 cs (upd o n x) (W.setCell ⟨go, n, none⟩ u) := by
  obtain ⟨Wb, vs, h1, h2, h3, h4⟩ := h.prd
  obtain ⟨us, g1, g2⟩ := h.at_.row
  obtain ⟨cg, hcg⟩ := own_typed g1 go rfl
  have hst := set_typed (g := go) hcg n u
  have hgo : w0.heap.size ≤ go := Nat.le_trans h3 h2
  have hl := g1.1
  refine ⟨⟨h.at_.tb.typed_move (by decide) hst, h.at_.bod.typed_move (by decide) hst, h.at_.all.typed_move (by decide) hst, h.at_.tab.typed (by decide) hst, h.at_.low.grown (set_grown W go n u) h.at_.low.size (fun k e => by injection e with e; omega), ⟨us.set n u, (g1.stored n u).1, fun i u' hu' => ?_⟩, fun i => ?_⟩, h.sts.typed_move (by decide) hst, h.pbx.typed_move (by decide) hst, ⟨Wb, vs, h1.grown (set_grown W go n u) h1.size (fun k e => by injection e with e; omega), h2, h3, h4⟩, h.hmb, h.hgo, h.hw0⟩
  · by_cases e : n = i
    · subst e
      rw [List.getElem?_set_self (by omega)] at hu'
      injection hu' with hu'
      subst hu'
      simp only [upd, if_true]
      exact hu.stays (T := 44) (by decide) hst
    · rw [List.getElem?_set_ne e] at hu'
      have : upd o n x i = o i := by simp [upd, Ne.symm e]
      rw [this]
      exact (g2 i u' hu').stays (T := 44) (by decide) hst
  · unfold upd
    split
    · exact hx
    · exact h.at_.shp i
end

set_option maxRecDepth 100000 in
set_option maxHeartbeats 8000000 in
theorem blook_any {w0 W : World} {B0 gt gbb ga gs gp gpr cp go mb N : Nat} {s : ByteArray} {p : Int} {A2 : Option Addr} {n2 c2 : Nat} {A3 : Option Addr} {c3 : Nat} {l03 : List S58} {cs : List S66} {o : Nat → List (List Bool)}
    (h : BkSt w0 B0 gt gbb ga gs gp gpr cp go mb N s p A2 n2 c2 A3 c3 l03 cs o W) (hN : N ≤ 1000) (n : Nat) (hn : n < l03.length) (hm : l03.length ≤ 1000) (hC : Kd.C k58 w0 A3 l03.length l03) (hcl : cs.length ≤ 1000) (hins : (rd_T58 l03 n).f0.length ≤ 900) (hto : (rd_T58 l03 n).f1.f5.length ≤ 1000) :
    Calls Try.prog 45 #[.int .i64 n, .pointer (some ⟨gs, 0, none⟩), .pointer (some ⟨gp, 0, none⟩)] W fun e W' => ∃ u lb gb ga', e = .returned (.tuple #[u, .func (.func 56) #[] lb]) ∧
      N2 W' w0.heap.size u (backG (bksOf l03) (chsOf cs) N o n) ∧ Below W.heap.size W W' ∧ W.heap.size ≤ gb ∧ W.heap.size ≤ ga' ∧ gb < W'.heap.size ∧ ga' < W'.heap.size ∧
      ∀ W2, Kp3 go gb ga' W' W2 → SeqStopsK Fence.wide 8 Try.prog 56 lb (fun x : { x : Int // x ∈ predsL (bksOf l03) n } => #[Value.int .i64 x.1]) (Kp3 go gb ga') (fun ys => ys.map (·.1) = predsL (bksOf l03) n) (fun pre => pre.map (·.1) <+: predsL (bksOf l03) n) 1000000 W2 := by
  obtain ⟨Wb, vs, h1, h2, h3, h4⟩ := h.prd
  have hvl : vs.length = l03.length := by rw [h4.len]; simp
  obtain ⟨ux, hux⟩ : ∃ u, vs[n]? = some u := ⟨_, List.getElem?_eq_getElem (by omega)⟩
  have hxo := h4.inn n ux (encs (Value.int .i64) (predsL (bksOf l03) n)) hux (by rw [List.getElem?_map, List.getElem?_map, List.getElem?_range hn]; rfl)
  rw [encs_length] at hxo
  obtain ⟨Ax, cx, rfl⟩ := own_slice hxo
  have hCx := own_int_C hxo
  have hcx0 := h4.cell hux
  have hcs : ∀ W', Below W.heap.size W W' → W'.cell? ⟨gs, 0, none⟩ = some (.func (.func 38) #[] #[.pointer (some ⟨gt, 0, none⟩), .pointer (some ⟨gbb, 0, none⟩), .pointer (some ⟨ga, 0, none⟩)]) := fun W' hb => (h.sts.below hb h.sts.lt).cell 0 _ rfl
  have hcp : ∀ W', Below W.heap.size W W' → W'.cell? ⟨gp, 0, none⟩ = some (.slice (some ⟨gpr, 0, none⟩) l03.length cp) := fun W' hb => (h.pbx.below hb h.pbx.lt).cell 0 _ rfl
  have hcx : ∀ W', Below W.heap.size W W' → W'.cell? ⟨gpr, n, none⟩ = some (.slice Ax (predsL (bksOf l03) n).length cx) := fun W' hb => pw_cell_below (below_then h1 h1.size hb) hcx0
  have hple := predsL_le (bksOf l03) n
  rw [bksOf_length] at hple
  have HBK := Lib.hid h.at_
  have HC := Lib.hid hC
  have HWB := Lib.hid h1
  have HCX := Lib.hid hCx
  have hgW : go < W.heap.size := by
    obtain ⟨us, g1, _⟩ := h.at_.row
    exact own_lt g1 go rfl
  have hlow0 := Lib.hid h.at_.low.size
  have q0 : ((0 : Int) ≤ (n : Int)) = True := eq_true (by omega)
  have q1 : ((n : Int) < (l03.length : Int)) = True := eq_true (by omega)
  clear h hC h1 h4 hCx hcx0 hxo hux
  go_enter Try.func45, Try.ntmps45
  go_wp2_with fail
  rename_i K hK
  refine start_ (n := 10) (S := fun w' => w'.cell? ⟨gs, 0, none⟩ = some (.func (.func 38) #[] #[.pointer (some ⟨gt, 0, none⟩), .pointer (some ⟨gbb, 0, none⟩), .pointer (some ⟨ga, 0, none⟩)]) ∧ w'.cell? ⟨gp, 0, none⟩ = some (.slice (some ⟨gpr, 0, none⟩) l03.length cp) ∧ w'.cell? ⟨gpr, n, none⟩ = some (.slice Ax (predsL (bksOf l03) n).length cx)) (ds := []) #[false, false, false, false, false, false, false, false, false, false] (by kernel_rfl) rfl rfl ⟨hcs _ (below_drew (Below.refl _ _)), hcp _ (below_drew (Below.refl _ _)), hcx _ (below_drew (Below.refl _ _))⟩ (fun hHeld => ?_)
  refine pure_ (i := 1) (N := some 7) (v := ?_) (a' := ?_) #[false, true, false, false, false, false, false, false, false, false] rfl rfl (by kernel_rfl) (fun _ _ _ h => h) (Or.inl ⟨by rfl, ?_⟩) ?_ ?_
  rotate_left
  · intro w'
    go_simp
    with_reducible rfl
  rotate_left
  · simp only [Act.put, List.setIfInBounds_toArray, List.set_cons_zero, List.set_cons_succ, i64_w, i32_w]
    rfl
  refine pure_ (i := 4) (N := some 10) (v := ?_) (a' := ?_) #[false, true, false, false, true, false, false, false, false, false] rfl rfl (by kernel_rfl) (fun _ _ _ h => h) (Or.inl ⟨by rfl, ?_⟩) ?_ ?_
  rotate_left
  · intro w'
    go_simp
    with_reducible rfl
  rotate_left
  · simp only [Act.put, List.setIfInBounds_toArray, List.set_cons_zero, List.set_cons_succ, i64_w, i32_w]
    rfl
  refine take_ (i := 0) (N := some 6) (v := ?_) (a' := ?_) #[true, true, false, false, true, false, false, false, false, false] rfl rfl (by kernel_rfl) (fun _ _ _ h => h) (Or.inl ⟨by rfl, ?_⟩) hHeld ?_ ?_
  rotate_left
  · rintro w' ⟨s0, s1, s2⟩
    go_simp
    with_reducible rfl
  rotate_left
  · simp only [Act.put, List.setIfInBounds_toArray, List.set_cons_zero, List.set_cons_succ, i64_w, i32_w]
    rfl
  refine take_ (i := 3) (N := some 9) (v := ?_) (a' := ?_) #[true, true, false, true, true, false, false, false, false, false] rfl rfl (by kernel_rfl) (fun _ _ _ h => h) (Or.inl ⟨by rfl, ?_⟩) hHeld ?_ ?_
  rotate_left
  · rintro w' ⟨s0, s1, s2⟩
    go_simp
    with_reducible rfl
  rotate_left
  · simp only [Act.put, List.setIfInBounds_toArray, List.set_cons_zero, List.set_cons_succ, i64_w, i32_w]
    rfl
  refine pure_ (i := 5) (N := some 11) (v := ?_) (a' := ?_) #[true, true, false, true, true, true, false, false, false, false] rfl rfl (by kernel_rfl) (fun _ _ _ h => h) (Or.inl ⟨by rfl, ?_⟩) ?_ ?_
  rotate_left
  · intro w'
    go_simp
    with_reducible rfl
  rotate_left
  · simp only [Act.put, List.setIfInBounds_toArray, List.set_cons_zero, List.set_cons_succ, i64_w, i32_w]
    rfl
  refine take_ (i := 6) (N := some 12) (v := ?_) (a' := ?_) #[true, true, false, true, true, true, true, false, false, false] rfl rfl (by kernel_rfl) (fun _ _ _ h => h) (Or.inl ⟨by rfl, ?_⟩) hHeld ?_ ?_
  rotate_left
  · rintro w' ⟨s0, s1, s2⟩
    go_simp
    with_reducible rfl
  rotate_left
  · simp only [Act.put, List.setIfInBounds_toArray, List.set_cons_zero, List.set_cons_succ, i64_w, i32_w]
    rfl
  refine one_ (i := 2) (N := some 8) #[true, true, true, true, true, true, true, false, false, false] rfl rfl (by kernel_rfl) (by decide) (fun K hK => ?_)
  refine goesC_ (t := 6) Try.func38 (by kernel_rfl) rfl #[.pointer (some ⟨gt, 0, none⟩), .pointer (some ⟨gbb, 0, none⟩), .pointer (some ⟨ga, 0, none⟩)] #[.int .i64 n] (by rfl) rfl rfl (by rfl) (by simp only [List.map_toArray, List.map_cons, List.map_nil]; rfl) ?_
  refine Calls.mono (f := 38) (args := #[.int .i64 n, .pointer (some ⟨gt, 0, none⟩), .pointer (some ⟨gbb, 0, none⟩), .pointer (some ⟨ga, 0, none⟩)]) (bstates_any (HBK.out.below (below_drew (Below.refl _ _))) hN n hn hm HC.out hcl hins hto) ?_
  rintro e w3 ⟨v3, rfl, hn3, hb3⟩
  obtain ⟨A3', d3, rfl⟩ := hn3.slice
  refine ⟨_, rfl, ?_⟩
  have hb3' := below_then (below_drew (Below.refl W.heap.size W)) (Nat.le_refl _) hb3
  refine hK.out _ _ ⟨hcs _ (hb3'), hcp _ (hb3'), hcx _ (hb3')⟩ (fun hHeld => ?_)
  clear hK K
  refine norm_ (a' := ?_) ?_ ?_
  rotate_left
  · show Act.put _ (some 8) _ = _
    simp only [Act.put, List.setIfInBounds_toArray, List.set_cons_zero, List.set_cons_succ, i64_w, i32_w]
    rfl
  refine one_ (i := 7) (N := some 13) #[true, true, true, true, true, true, true, true, false, false] rfl rfl (by kernel_rfl) (by decide) (fun K hK => ?_)
  refine goes_ Try.func46 (by kernel_rfl) rfl #[.slice Ax (predsL (bksOf l03) n).length cx] (by rfl) rfl rfl (by simp only [List.map_toArray, List.map_cons, List.map_nil]; rfl) ?_
  with_reducible refine (values_any Ax _ cx _).mono ?_
  rintro e w5 ⟨rfl, rfl⟩
  refine ⟨_, rfl, ?_⟩
  refine hK.out _ _ ⟨hcs _ (below_alloc hb3' _), hcp _ (below_alloc hb3' _), hcx _ (below_alloc hb3' _)⟩ (fun hHeld => ?_)
  clear hK K
  refine norm_ (a' := ?_) ?_ ?_
  rotate_left
  · show Act.put _ (some 13) _ = _
    simp only [Act.put, List.setIfInBounds_toArray, List.set_cons_zero, List.set_cons_succ, i64_w, i32_w]
    rfl
  refine pure_ (i := 8) (N := some 4) (v := ?_) (a' := ?_) #[true, true, true, true, true, true, true, true, true, false] rfl rfl (by kernel_rfl) (fun _ _ _ h => h) (Or.inl ⟨by rfl, ?_⟩) ?_ ?_
  rotate_left
  · intro w'
    go_simp
    with_reducible rfl
  rotate_left
  · simp only [Act.put, List.setIfInBounds_toArray, List.set_cons_zero, List.set_cons_succ, i64_w, i32_w]
    rfl
  refine pure_ (i := 9) (N := some 5) (v := ?_) (a' := ?_) #[true, true, true, true, true, true, true, true, true, true] rfl rfl (by kernel_rfl) (fun _ _ _ h => h) (Or.inl ⟨by rfl, ?_⟩) ?_ ?_
  rotate_left
  · intro w'
    go_simp
    with_reducible rfl
  rotate_left
  · simp only [Act.put, List.setIfInBounds_toArray, List.set_cons_zero, List.set_cons_succ, i64_w, i32_w]
    rfl
  refine done_ (by kernel_rfl) ?_
  refine hK _ _ ?_
  clear hK K hHeld
  have hbA := below_alloc hb3' (.cells #[Value.slice Ax (predsL (bksOf l03) n).length cx] 42)
  have hs3 := hb3'.size
  go_wp2_with fail
  go_ret2
  refine ⟨_, _, w3.heap.size, w3.heap.size, rfl, ((hn3.weaken (by exact hlow0.out)).below (below_alloc (Below.refl _ _) _)), hbA, hs3, hs3, by simp, by simp, fun W2 hk => ?_⟩
  have hbx := heap_alloc_new w3 (.cells #[Value.slice Ax (predsL (bksOf l03) n).length cx] 42)
  have hT : ValAt W2 go w3.heap.size Ax cx (predsL (bksOf l03) n) := ValAt.keeps ⟨hbx, Wb, below_then HWB.out HWB.out.size hbA, h2, HCX.out⟩ hk
  have hsz := hk.1.size
  rw [World.size_alloc] at hsz
  exact seq_more (vals_stops 8 (by decide) go w3.heap.size Ax cx _ (by omega) W2 (by omega) (by omega) hT) (by omega)
theorem back_settle {w0 : World} {B0 gt gbb ga gs gp gpr cp go mb N : Nat} {s : ByteArray} {p : Int} {A2 : Option Addr} {n2 c2 : Nat} {A3 : Option Addr} {c3 : Nat} {l03 : List S58} {cs : List S66} (hC : Kd.C k58 w0 A3 l03.length l03) (hfew : fewB l03 = true) (hN : N ≤ 1000) (hcl : cs.length ≤ 1000) :
    Settle (List (List Bool)) l03.length B0 go go 42 45 56 44 (.pointer (some ⟨gs, 0, none⟩)) (.pointer (some ⟨gp, 0, none⟩))
      (fun o W => BkSt w0 B0 gt gbb ga gs gp gpr cp go mb N s p A2 n2 c2 A3 c3 l03 cs o W) (fun W u x => N2 W w0.heap.size u x ∧ Shp N x)
      (fun o n => backG (bksOf l03) (chsOf cs) N o n) (fun n => predsL (bksOf l03) n) (fun x y => decide (x = y)) := by
  obtain ⟨hm, hb⟩ := fewB_at hfew
  have hshp : ∀ {o : Nat → List (List Bool)} {W : World} {n : Nat}, BkSt w0 B0 gt gbb ga gs gp gpr cp go mb N s p A2 n2 c2 A3 c3 l03 cs o W → n < l03.length → Shp N (backG (bksOf l03) (chsOf cs) N o n) ∧ (backG (bksOf l03) (chsOf cs) N o n).length ≤ 1000 := fun {o W n} h hn => by
    refine ⟨backG_shp h.at_.shp n, ?_⟩
    unfold backG
    rw [backStates_length, rd_T58_get hn]
    have he : rd_T58 l03 n = l03[n] := by simp [rd_T58, List.getElem?_eq_getElem hn, List.getD_eq_getElem?_getD]
    have := hb _ (List.getElem_mem hn)
    rw [he]
    simp
    omega
  refine ⟨fun o W W' h hb => h.below hb, fun o W W' h hb hk => h.queue hb hk, fun o W n h hn => ?_, fun o W h hm => ?_, fun o W n u x h hn hu => h.store hn hu.1 hu.2, fun W W' u x hu hb => ⟨hu.1.below hb, hu.2⟩, fun W u x hu => ?_, fun W u x u' y hu hy => ?_, fun o W n h hn => ?_⟩
  · obtain ⟨u, h1, h2⟩ := h.get hn
    exact ⟨u, h1, h2, h.at_.shp n⟩
  · obtain ⟨vs, h1, _⟩ := h.at_.row
    exact own_typed h1 go rfl
  · obtain ⟨A, c, e⟩ := hu.1.slice
    exact ⟨A, _, c, e⟩
  · exact sameRows_any hu.1 hy.1 (fun r hr => by rw [hu.2.2 r hr]; omega)
  · have hbn := hb _ (List.getElem_mem hn)
    have he : rd_T58 l03 n = l03[n] := by simp [rd_T58, List.getElem?_eq_getElem hn, List.getD_eq_getElem?_getD]
    refine (blook_any h hN n hn (by omega) hC hcl (by rw [he]; omega) (by rw [he]; omega)).mono ?_
    rintro e W' ⟨u, lb, gb, ga', rfl, h1, h2⟩
    exact ⟨u, lb, gb, ga', rfl, ⟨h1, (hshp h hn).1⟩, h2⟩
end Go.Proofs.Ythgnbeeobhfeaaa.T
end
