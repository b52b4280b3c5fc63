/- Walks: words are made. -/
import Derived.Test.YtkgiddpeaebdfaaW5
import Derived.Deep.RegionLaw
import Derived.Deep.OwnRows
namespace Go.Proofs.Ytkgiddpeaebdfaa
open Go.RowKit

theorem step_append_at {P : Program} {ops : Array Oper} {o : Oper} {a : Act} {w : World} {K : Act → World → Prop} {Q : Exit → Act → World → Prop} {E : Prop}
    (hgd : o.guard = none) (s x : Operand) (t : TypeId) (ho : o.op = .call { callee := .builtin .append, args := #[s, x], argTypes := #[t, t] })
    (base : Nat) (e : TypeId) (i : TypeInfo) (z : Value) (size bytes : Nat) (ht : P.underlying t = some (.slice e)) (hi : P.info? e = some i) (hz : i.zero = some z)
    (hsize : i.size = size) (hby : i.bytes = bytes) (hzs : z.cells.size = size) (hsz : 0 < size)
    (v : Value) (n : Nat) (xs : List Value) (hs : a.eval s = v)
    (ad : Addr) (m c : Nat) (news : List Value) (hx : a.eval x = .slice (some ad) m c) (hl : news.length = m * size) (h1 : ∀ u ∈ news, u.oneCell' = true)
    (h63 : n + m ≤ maxLen) (hbytes : (n + m) * bytes ≤ 140737488355328) (hbase : base ≤ w.heap.size)
    (hown : w.ownsRow base e size v n xs) (hnews : ∀ j u, news[j]? = some u → w.cell? (ad.add j) = some u)
    (h : ∀ v' w', w'.ownsRow base e size v' (n + m) (xs ++ news) → w.grownBy w' v.ownBlock → (v'.ownBlock = v.ownBlock ∨ v'.ownBlock = some w.heap.size) → K (a.put o.dst v') w') :
    if Region.wanted o (yielded ops a.tmps) = true then Oper.wp P o a w K Q else E := by
  rw [if_pos (by simp [Region.wanted, hgd])]
  obtain ⟨v', w', hr, h2, h3, _, h5⟩ := run_append_own_at (P := P) w base t o.type e i z size bytes ht hi hz hsize hby hzs hsz v n xs hown ad m c news hl hnews h1 h63 hbytes hbase
  unfold Oper.wp execOp
  simp only [ho, resolve, invoke, builtin, Sem.run_bind, Sem.run_pure, Result.andThen_ok, List.map_toArray, List.map_cons, List.map_nil, hs, hx, hr]
  exact h v' w' h2 h3 h5

theorem alloc_neg {W : World} (g : Nat) (n : Int) (hn : n < 0) :
    Calls Try.prog 14 #[.pointer (some ⟨g, 0, none⟩), .int .i64 n] W fun e W' =>
      e = .returned (.tuple #[.agg #[.bool false, .int .i64 0, .int .i64 0], .int .i64 1]) ∧ Below W.heap.size W W' := by
  go_enter Try.func14, Try.ntmps14
  go_wp2
  exact bodyPost_ret (v := .tuple #[.agg #[.bool false, .int .i64 0, .int .i64 0], .int .i64 1]) (by (simp only [results, Try.results14]); go_simp) rfl ⟨rfl, by repeat (first | exact Below.refl _ _ | (refine below_set ?_ (by simp) _) | apply below_alloc | apply below_drewN)⟩

theorem alloc_full {W : World} {g : Nat} {L : Lay} {F : Nat → Prop} {S : Me} (h : MemAt W g L F S) (hI : S.Inv) (n : Int) (h0 : 0 ≤ n) (hn : S.room - S.used < n) :
    Calls Try.prog 14 #[.pointer (some ⟨g, 0, none⟩), .int .i64 n] W fun e W' =>
      e = .returned (.tuple #[.agg #[.bool false, .int .i64 0, .int .i64 0], .int .i64 10]) ∧ Below W.heap.size W W' := by
  obtain ⟨k1, k2, k3, k4, k5⟩ := h.cells
  have i1 := hI.room0
  have i2 := hI.room1
  have i3 := hI.le
  have i4 : 0 ≤ S.used := by have := hI.used; omega
  go_enter Try.func14, Try.ntmps14
  go_wp2
  go_quiet (fail)
  go_wp2
  exact bodyPost_ret (v := .tuple #[.agg #[.bool false, .int .i64 0, .int .i64 0], .int .i64 10]) (by (simp only [results, Try.results14]); go_simp) rfl ⟨rfl, by repeat (first | exact Below.refl _ _ | (refine below_set ?_ (by simp) _) | apply below_alloc | apply below_drewN)⟩

def zw (n : Nat) : Array Value := (wcells (List.replicate n Wd.zero)).toArray
def zb (n : Nat) : Array Value := (bcells (List.replicate n false)).toArray
theorem Try.info23 : (Try.prog.info? 23).map (fun i => (i.zero, i.size, i.bytes)) = some (some (.agg #[.bool false, .int .i64 0, .int .i64 0]), 3, 24) := by kernel_rfl
theorem Try.info4 : (Try.prog.info? 4).map (fun i => (i.zero, i.size, i.bytes)) = some (some (.bool false), 1, 1) := by kernel_rfl
theorem Try.info65 : (Try.prog.info? 65).map (fun i => (i.zero, i.size, i.bytes)) = some (some (.agg #[.slice none 0 0, .slice none 0 0, .bool false]), 3, 56) := by kernel_rfl

theorem made_w (n : Nat) : madeCells #[.bool false, .int .i64 0, .int .i64 0] (n * 3) = zw n := by
  apply Array.ext'
  have h1 : (madeCells #[.bool false, .int .i64 0, .int .i64 0] (n * 3)).toList.length = n * 3 := by simp [madeCells]
  have h2 : (zw n).toList.length = n * 3 := by simp [zw, wcells_length]
  refine ext3 h1 h2 ?_
  intro i hi
  obtain ⟨w1, w2, w3⟩ := wcells_at (List.replicate n Wd.zero) i (by simpa using hi)
  have e : (List.replicate n Wd.zero).getD i Wd.zero = Wd.zero := by simp [List.getD_eq_getElem?_getD, hi]
  rw [e] at w1 w2 w3
  simp only [zw, w1, w2, w3]
  simp only [madeCells, Array.toList_map, Array.toList_range, List.getElem?_map]
  rw [List.getElem?_range (by omega), List.getElem?_range (by omega), List.getElem?_range (by omega)]
  simp [Wd.zero, show (i * 3 + 1) % 3 = 1 from by omega, show (i * 3 + 2) % 3 = 2 from by omega]

theorem made_b (n : Nat) : madeCells #[.bool false] n = zb n := by
  apply Array.ext'
  apply List.ext_getElem?
  intro i
  by_cases hi : i < n
  · simp [madeCells, zb, bcells, hi, Nat.mod_one]
  · simp [madeCells, zb, bcells, hi]

theorem mk_w (n : Nat) (hn : n ≤ 1048576) (w : World) : (Instr.makeSlice 29 (.int .i64 n) (.int .i64 n)).run Try.prog w = .ok (.slice (some ⟨w.heap.size, 0, none⟩) n n) (w.alloc (.cells (zw n) 23)) := by
  obtain ⟨i, hi, hz, hs, hb⟩ := info_parts Try.info23
  have hr := run_make (P := Try.prog) w 29 23 i _ Try.underlying29 hi hz .i64 .i64 n n (by omega) (Int.le_refl _) (by rw [hb]; omega) (by omega)
  rw [hs] at hr
  simp only [Int.toNat_natCast] at hr
  rw [hr, ← made_w]
  rfl

theorem mk_b (n : Nat) (hn : n ≤ 1048576) (w : World) : (Instr.makeSlice 43 (.int .i64 n) (.int .i64 n)).run Try.prog w = .ok (.slice (some ⟨w.heap.size, 0, none⟩) n n) (w.alloc (.cells (zb n) 4)) := by
  have := run_make_row' (P := Try.prog) 43 4 (.bool false) 1 Try.underlying43 Try.info4 rfl .i64 .i64 n (by omega) (by omega) w
  rw [made_b] at this
  exact this

theorem own_move {w w1 : World} {base : Nat} {e : TypeId} {size n : Nat} {v : Value} {xs : List Value} (h : w.ownsRow base e size v n xs) (hm : ∀ k, v.ownBlock = some k → w1.heap[k]? = w.heap[k]?) : w1.ownsRow base e size v n xs := by
  obtain ⟨h1, h2⟩ := h
  refine ⟨h1, ?_⟩
  rcases h2 with h2 | ⟨g, cap, cur, hv, hg, hh, r⟩
  · exact .inl h2
  · exact .inr ⟨g, cap, cur, hv, hg, (hm g (by rw [hv]; rfl)).trans hh, r⟩

theorem cell_row {w : World} {m : Nat} (hm : m = w.heap.size) (cs : List Value) (t : TypeId) : ∀ j u, cs[j]? = some u → (w.alloc (.cells cs.toArray t)).cell? ((⟨m, 0, none⟩ : Addr).add j) = some u := by
  subst hm
  intro j u hj
  have e : (⟨w.heap.size, 0, none⟩ : Addr).add j = ⟨w.heap.size, j, none⟩ := by unfold Addr.add; split <;> simp_all
  rw [e, blk_cell (heap_alloc_new w (.cells cs.toArray t))]
  simpa using hj

theorem own_succ {w : World} {base : Nat} {e : TypeId} {size n : Nat} {v : Value} {xs : List Value} (h : w.ownsRow base e size v (n + 1) xs) : ∃ A c, v = .slice A (n + 1) c := by
  obtain ⟨_, ⟨_, h0⟩ | ⟨g, cap, cur, hv, _⟩⟩ := h
  · omega
  · exact ⟨_, _, hv⟩

/-- The world behind the append of an Alloc. -/
theorem alloc_X {W w1 : World} {g nq : Nat} {room used live used' live' : Int} {s : Value} {A B C : Array Value} {tA tB : TypeId} {row : Option Nat}
    (hg : W.heap[g]? = some (.cells #[.int .i64 room, .int .i64 used, .int .i64 live, s] 63 (0, 0)))
    (hgrow : (((((((W.alloc (.cells #[.bool false, .int .i64 0, .int .i64 0] 23)).drewN nq).setCell ⟨g, 1, none⟩ (.int .i64 used')).setCell ⟨g, 2, none⟩ (.int .i64 live')).alloc (.cells A tA)).alloc (.cells B tB)).alloc (.cells C 65)).drew.grownBy w1 row)
    (hrow : ∀ k, row = some k → k < W.heap.size ∧ k ≠ g) :
    W.heap.size + 3 < w1.heap.size ∧ w1.heap[g]? = some (.cells #[.int .i64 room, .int .i64 used', .int .i64 live', s] 63 (0, 0)) ∧ w1.heap[W.heap.size]? = some (.cells #[.bool false, .int .i64 0, .int .i64 0] 23 (0, 0)) ∧
      w1.heap[W.heap.size + 1]? = some (.cells A tA (0, 0)) ∧ w1.heap[W.heap.size + 2]? = some (.cells B tB (0, 0)) ∧ Kept (fun k => k = g ∨ some k = row) W w1 := by
  have lg := blk_lt hg
  have a0 := heap_alloc_new W (.cells #[.bool false, .int .i64 0, .int .i64 0] 23)
  have a1 : ((W.alloc (.cells #[.bool false, .int .i64 0, .int .i64 0] 23)).drewN nq).heap[g]? = some (.cells #[.int .i64 room, .int .i64 used, .int .i64 live, s] 63 (0, 0)) := blk_alloc hg _
  have b1 := blk_set (blk_set a1 1 (.int .i64 used')) 2 (.int .i64 live')
  have b0 : ((((W.alloc (.cells #[.bool false, .int .i64 0, .int .i64 0] 23)).drewN nq).setCell ⟨g, 1, none⟩ (.int .i64 used')).setCell ⟨g, 2, none⟩ (.int .i64 live')).heap[W.heap.size]? = some (.cells #[.bool false, .int .i64 0, .int .i64 0] 23 (0, 0)) :=
    blk_far (p := ⟨g, 2, none⟩) (blk_far (p := ⟨g, 1, none⟩) a0 (show W.heap.size ≠ g by omega) _) (show W.heap.size ≠ g by omega) _
  have hs : ((((W.alloc (.cells #[.bool false, .int .i64 0, .int .i64 0] 23)).drewN nq).setCell ⟨g, 1, none⟩ (.int .i64 used')).setCell ⟨g, 2, none⟩ (.int .i64 live')).heap.size = W.heap.size + 1 := by simp [World.setCell]
  have hk : Kept (fun k => k = g) W ((((W.alloc (.cells #[.bool false, .int .i64 0, .int .i64 0] 23)).drewN nq).setCell ⟨g, 1, none⟩ (.int .i64 used')).setCell ⟨g, 2, none⟩ (.int .i64 live')) :=
    ((((Kept.refl (fun k => k = g) W).alloc _).drewN nq).set2 ⟨g, 1, none⟩ _ rfl).set2 ⟨g, 2, none⟩ _ rfl
  generalize (((W.alloc (.cells #[.bool false, .int .i64 0, .int .i64 0] 23)).drewN nq).setCell ⟨g, 1, none⟩ (.int .i64 used')).setCell ⟨g, 2, none⟩ (.int .i64 live') = X at *
  have hne : ∀ k, (k = g ∨ W.heap.size ≤ k) → some k ≠ row := by
    intro k hk e
    have := hrow k e.symm
    omega
  have move : ∀ k o, (k = g ∨ W.heap.size ≤ k) → (((X.alloc (.cells A tA)).alloc (.cells B tB)).alloc (.cells C 65)).heap[k]? = some o → w1.heap[k]? = some o := fun k o hk ho => (hgrow.block k (blk_lt (w := (((X.alloc (.cells A tA)).alloc (.cells B tB)).alloc (.cells C 65)).drew) ho) (hne k hk)).trans ho
  have e1 := heap_alloc_new X (.cells A tA)
  have e2 := heap_alloc_new (X.alloc (.cells A tA)) (.cells B tB)
  rw [hs] at e1
  rw [World.size_alloc, hs] at e2
  refine ⟨?_, ?_, ?_, ?_, ?_, ?_⟩
  · have := hgrow.size
    have h4 : (((X.alloc (.cells A tA)).alloc (.cells B tB)).alloc (.cells C 65)).drew.heap.size = W.heap.size + 4 := by simp [hs]
    omega
  · refine move _ _ (.inl rfl) (blk_alloc (blk_alloc (blk_alloc ?_ _) _) _)
    simpa using b1
  · exact move _ _ (.inr (Nat.le_refl _)) (blk_alloc (blk_alloc (blk_alloc b0 _) _) _)
  · exact move _ _ (.inr (by omega)) (blk_alloc (blk_alloc e1 _) _)
  · exact move _ _ (.inr (by omega)) (blk_alloc e2 _)
  · refine Kept.grown (F := fun k => k = g ∨ some k = row) (((((hk.mono (fun k _ h => .inl h)).alloc _).alloc _).alloc _).drew) hgrow (fun k e _ => .inr e.symm)

set_option maxHeartbeats 8000000 in
theorem alloc_in (W : World) (g n len : Nat) (bo : Option Addr) (cap : Nat) (room used live : Int) (xs : List Value)
    (hgh : W.heap[g]? = some (.cells #[.int .i64 room, .int .i64 used, .int .i64 live, .slice bo len cap] 63 (0, 0)))
    (hown : W.ownsRow 0 65 3 (.slice bo len cap) len xs) (hob : ∀ k, (Value.slice bo len cap).ownBlock = some k → k < W.heap.size ∧ k ≠ g)
    (i1 : room ≤ 1048576) (i2 : 0 ≤ used) (i3 : used + n ≤ room) (i4 : 0 ≤ live) (i5 : live ≤ 1000000000) (i6 : len ≤ 1000000000) (R : Ending → World → Prop)
    (hR : ∀ (w1 W' : World) (A : Option Addr) (c gw gs : Nat), w1.heap[g]? = some (.cells #[.int .i64 room, .int .i64 (used + n), .int .i64 (live + 1), .slice bo len cap] 63 (0, 0)) → w1.heap[W.heap.size]? = some (.cells #[.bool false, .int .i64 0, .int .i64 0] 23 (0, 0)) →
      W.heap.size < gw → W.heap.size < gs → w1.heap[gw]? = some (.cells (zw n) 23 (0, 0)) → w1.heap[gs]? = some (.cells (zb n) 4 (0, 0)) → Kept (fun k => k = g ∨ some k = (Value.slice bo len cap).ownBlock) W w1 →
      w1.ownsRow 0 65 3 (.slice A (len + 1) c) (len + 1) (xs ++ [.slice (some ⟨gw, 0, none⟩) n n, .slice (some ⟨gs, 0, none⟩) n n, .bool false]) →
      ((Value.slice A (len + 1) c).ownBlock = (Value.slice bo len cap).ownBlock ∨ ∃ k, (Value.slice A (len + 1) c).ownBlock = some k ∧ W.heap.size ≤ k) →
      W' = ((((w1.setCell ⟨g, 3, none⟩ (.slice A (len + 1) c)).setCell ⟨W.heap.size, 0, none⟩ (.bool true)).setCell ⟨W.heap.size, 1, none⟩ (.int .i64 (len + 1))).setCell ⟨W.heap.size, 2, none⟩ (.int .i64 0)) →
      R (.returned (.tuple #[.agg #[.bool true, .int .i64 (len + 1), .int .i64 0], .int .i64 0])) W') :
    Calls Try.prog 14 #[.pointer (some ⟨g, 0, none⟩), .int .i64 n] W R := by
  have mw := mk_w n (by omega)
  have mb := mk_b n (by omega)
  have hg := blk_lt hgh
  have hg1 : g < W.heap.size + 1 := by omega
  have hg2 : g < W.heap.size + 1 + 1 := by omega
  have hg3 : g < W.heap.size + 2 := by omega
  have c0 : W.cell? ⟨g, 0, none⟩ = some (.int .i64 room) := blk_cell hgh 0
  have c1 : W.cell? ⟨g, 1, none⟩ = some (.int .i64 used) := blk_cell hgh 1
  have c2 : W.cell? ⟨g, 2, none⟩ = some (.int .i64 live) := blk_cell hgh 2
  have c3 : W.cell? ⟨g, 3, none⟩ = some (.slice bo len cap) := blk_cell hgh 3
  have hfg : ∀ i, W.frozen? ⟨g, i, none⟩ = false := fun i => blk_frozen hgh i
  have HO := Lib.hid hown
  have HB := Lib.hid hob
  have HG := Lib.hid hgh
  have HR := Lib.hid hR
  clear hown hob hgh hR
  obtain ⟨i0, hi, hz0, hz1, hz2⟩ := info_parts Try.info65
  go_enter Try.func14, Try.ntmps14
  go_wp2
  go_quiet (fail)
  go_wp2
  go_region_law (first
    | (refine step_append_at rfl (.tmp 42) (.tmp 48) 61 rfl 0 65 i0 _ 3 56 Try.underlying61 hi hz0 hz1 hz2 rfl (by decide) (.slice bo len cap) len xs rfl _ 1 1 [.slice (some ⟨W.heap.size + 1, 0, none⟩) n n, .slice (some ⟨W.heap.size + 2, 0, none⟩) n n, .bool false] rfl rfl ?_ ?_ ?_ (Nat.zero_le _) ?_ ?_ ?_
       (intro u hu; simp at hu; rcases hu with rfl | rfl | rfl <;> rfl)
       (simp only [maxLen]; omega)
       omega
       (exact own_move HO.out (fun k hk => Kept.block (F := fun k => k = g) (by repeat (first | exact Kept.refl _ _ | apply Kept.alloc | apply Kept.drewN | apply Kept.drew | (refine Kept.set ?_ _ _ (fun _ => rfl)))) k (HB.out k hk).1 (HB.out k hk).2))
       (exact cell_row (by simp) _ _)
       (intro v' w1 hown1 hgrow1 hat1
        obtain ⟨f0, f1, f2, f3, f4, f5⟩ := alloc_X HG.out hgrow1 (fun k hk => HB.out k hk)
        obtain ⟨A1, c1', rfl⟩ := own_succ hown1
        have hc3 : w1.cell? ⟨g, 3, none⟩ = some (.slice bo len cap) := blk_cell f1 3
        have hfg1 : ∀ j, w1.frozen? ⟨g, j, none⟩ = false := fun j => blk_frozen f1 j
        have hcr : ∀ j, w1.cell? ⟨W.heap.size, j, none⟩ = (#[.bool false, .int .i64 0, .int .i64 0] : Array Value)[j]? := fun j => blk_cell f2 j
        have hfr : ∀ j, w1.frozen? ⟨W.heap.size, j, none⟩ = false := fun j => blk_frozen f2 j
        have HF1 := Lib.hid f1
        have HF2 := Lib.hid f2
        have HF3 := Lib.hid f3
        have HF4 := Lib.hid f4
        have HF5 := Lib.hid f5
        have HO1 := Lib.hid hown1
        have HA1 := Lib.hid hat1
        clear f1 f2 f3 f4 f5 hown1 hgrow1 hat1))
    | (refine step_append_at rfl (.tmp 42) (.tmp 48) 61 rfl 0 65 i0 _ 3 56 Try.underlying61 hi hz0 hz1 hz2 rfl (by decide) (.slice bo len cap) len xs rfl _ 1 1 [.slice (some ⟨W.heap.size + 2, 0, none⟩) n n, .slice (some ⟨W.heap.size + 1, 0, none⟩) n n, .bool false] rfl rfl ?_ ?_ ?_ (Nat.zero_le _) ?_ ?_ ?_
       (intro u hu; simp at hu; rcases hu with rfl | rfl | rfl <;> rfl)
       (simp only [maxLen]; omega)
       omega
       (exact own_move HO.out (fun k hk => Kept.block (F := fun k => k = g) (by repeat (first | exact Kept.refl _ _ | apply Kept.alloc | apply Kept.drewN | apply Kept.drew | (refine Kept.set ?_ _ _ (fun _ => rfl)))) k (HB.out k hk).1 (HB.out k hk).2))
       (exact cell_row (by simp) _ _)
       (intro v' w1 hown1 hgrow1 hat1
        obtain ⟨f0, f1, f2, f3, f4, f5⟩ := alloc_X HG.out hgrow1 (fun k hk => HB.out k hk)
        obtain ⟨A1, c1', rfl⟩ := own_succ hown1
        have hc3 : w1.cell? ⟨g, 3, none⟩ = some (.slice bo len cap) := blk_cell f1 3
        have hfg1 : ∀ j, w1.frozen? ⟨g, j, none⟩ = false := fun j => blk_frozen f1 j
        have hcr : ∀ j, w1.cell? ⟨W.heap.size, j, none⟩ = (#[.bool false, .int .i64 0, .int .i64 0] : Array Value)[j]? := fun j => blk_cell f2 j
        have hfr : ∀ j, w1.frozen? ⟨W.heap.size, j, none⟩ = false := fun j => blk_frozen f2 j
        have HF1 := Lib.hid f1
        have HF2 := Lib.hid f2
        have HF3 := Lib.hid f3
        have HF4 := Lib.hid f4
        have HF5 := Lib.hid f5
        have HO1 := Lib.hid hown1
        have HA1 := Lib.hid hat1
        clear f1 f2 f3 f4 f5 hown1 hgrow1 hat1)))
  all_goals go_wp2
  all_goals
    refine bodyPost_ret (v := .tuple #[.agg #[.bool true, .int .i64 (len + 1), .int .i64 0], .int .i64 0]) (by (simp only [results, Try.results14]); go_simp) rfl ?_
    have ha := HA1.out.imp id (fun e => (⟨_, e, by simp [World.setCell]; omega⟩ : ∃ k, (Value.slice A1 (len + 1) c1').ownBlock = some k ∧ W.heap.size ≤ k))
    first
      | exact HR.out w1 _ A1 c1' (W.heap.size + 1) (W.heap.size + 2) HF1.out HF2.out (by omega) (by omega) HF3.out HF4.out HF5.out HO1.out ha rfl
      | exact HR.out w1 _ A1 c1' (W.heap.size + 2) (W.heap.size + 1) HF1.out HF2.out (by omega) (by omega) HF4.out HF3.out HF5.out HO1.out ha rfl

end Go.Proofs.Ytkgiddpeaebdfaa
