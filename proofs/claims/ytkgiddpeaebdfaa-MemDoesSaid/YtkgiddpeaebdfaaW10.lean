/- Walks: a slice of n times true (slices.Repeat), and what lies below it (bits.Mul of 1). -/
import Derived.Test.YtkgiddpeaebdfaaW7
import Derived.Lib.SlBuf
import Derived.Lib.Mul64
import Derived.Laws.Bits64b
import Derived.LoopTactic
namespace Go.Proofs.Ytkgiddpeaebdfaa
open Go.RowKit

theorem maskN (a : Nat) (ha : a < 18446744073709551616) : bits .and .u64 (a : Int) 4294967295 = ((a % 4294967296 : Nat) : Int) := by
  have h := bits_and_u64_nat a 4294967295 ha (by omega)
  have e : a &&& 4294967295 = a % 4294967296 := Nat.and_two_pow_sub_one_eq_mod a 32
  rw [e] at h
  exact h
theorem maskS (a : Nat) (ha : a < 4294967296) : bits .and .u64 (a : Int) 4294967295 = (a : Int) := by
  rw [maskN a (by omega), Nat.mod_eq_of_lt ha]
theorem mask1 : bits .and .u64 1 4294967295 = 1 := by decide
theorem mask0 : bits .and .u64 0 4294967295 = 0 := by decide

theorem mul64_one (W : World) (n : Nat) (hn : n ≤ 1048576) :
    Calls Try.prog 41 #[.int .u64 1, .int .u64 n] W fun e W' => e = .returned (.tuple #[.int .u64 0, .int .u64 n]) ∧ W' = W := by
  have m1 := maskS n (by omega)
  have m2 : (n : Int) / 4294967296 = 0 := by omega
  have m3 := mask1
  have m4 := mask0
  go_enter Try.func41, Try.ntmps41
  go_wp2
  go_ret2
  exact ⟨rfl, rfl⟩

theorem mul_one (W : World) (n : Nat) (hn : n ≤ 1048576) :
    Calls Try.prog 39 #[.int .u64 1, .int .u64 n] W fun e W' => e = .returned (.tuple #[.int .u64 0, .int .u64 n]) ∧ W' = W := by
  go_enter Try.func39, Try.ntmps39
  go_wp2_with fail
  refine (mul64_one _ n hn).mono ?_
  rintro e W' ⟨rfl, rfl⟩
  go_wp2
  go_ret2
  exact ⟨rfl, rfl⟩

def part (m n : Nat) : List Bool := List.replicate m true ++ List.replicate (n - m) false

theorem part_grow (m k n : Nat) (h : m + k ≤ n) : splice (bcells (part m n)) m (List.replicate k (.bool true)) = bcells (part (m + k) n) := by
  have e : n - m = k + (n - (m + k)) := by omega
  simp only [part, bcells, splice, e, List.map_append, List.map_replicate, List.length_replicate]
  rw [List.take_append_of_le_length (by simp), List.drop_append, ← List.append_assoc]
  simp

theorem copyB (w : World) (ty : TypeId) (b o dLen dCap : Nat) (a : Addr) (sLen sCap k : Nat) (hk : k = Nat.min sLen dLen)
    (hsrc : ∀ j, j < k → w.cell? (a.add j) = some (.bool true)) (hc : ∀ j, j < k → (w.cell? ⟨b, o + j, none⟩).isSome = true) (hf : ∀ j, j < k → w.frozen? ⟨b, o + j, none⟩ = false) :
    (Builtin.copy_ #[43, 43] ty #[.slice (some ⟨b, o, none⟩) dLen dCap, .slice (some a) sLen sCap]).run Try.prog w = .ok (goInt k) (w.setCells b o (List.replicate k (.bool true))) := by
  have := run_copy_cells (P := Try.prog) w 43 43 ty 4 b o dLen dCap a sLen sCap (List.replicate k (.bool true)) Try.underlying43 (by kernel_rfl) (by simpa using hk) (fun j v hj => by
    rw [List.getElem?_replicate] at hj
    split at hj
    · injection hj with hj; subst hj; exact hsrc j ‹_›
    · cases hj) (by simpa using hc) (by simpa using hf) (fun v hv => by rw [List.eq_of_mem_replicate hv]; rfl)
  simpa using this

structure Filled (W wr : World) (n m : Nat) : Prop where
  le : m ≤ n
  pos : 0 < n → 0 < m
  row : wr.heap[W.heap.size]? = some (.cells (bcells (part m n)).toArray 4 (0, 0))
  old : Below W.heap.size W wr

theorem part_length (m n : Nat) (h : m ≤ n) : (bcells (part m n)).length = n := by simp [bcells, part]; omega
theorem part_true (m n j : Nat) (h : j < m) : (bcells (part m n))[j]? = some (.bool true) := by
  rw [bcells, part, List.map_append, List.map_replicate, List.getElem?_append_left (by simpa using h)]
  simp [h]

theorem Filled.grow {W wr : World} {n m k : Nat} (h : Filled W wr n m) (hk : m + k ≤ n) : Filled W (wr.setCells W.heap.size m (List.replicate k (.bool true))) n (m + k) := by
  refine ⟨hk, fun hn => Nat.lt_of_lt_of_le (h.pos hn) (Nat.le_add_right _ _), ?_, ?_⟩
  · rw [setCells_heap _ 4 _ _ (bcells (part m n)) wr h.row (by rw [part_length _ _ h.le]; simpa using hk), part_grow m k n hk]
  · have := setCells_kept (F := fun k => k = W.heap.size) W.heap.size rfl (List.replicate k (.bool true)) m (Kept.refl _ wr)
    exact h.old.trans (this.below (by rintro k hk rfl; omega) h.old.size)

theorem Filled.start {W : World} {n x : Nat} (hx : W.cell? ⟨x, 0, none⟩ = some (.bool true)) :
    ∃ wr m, (Builtin.copy_ #[43, 43] 3 #[.slice (some ⟨W.heap.size, 0, none⟩) n n, .slice (some ⟨x, 0, none⟩) 1 1]).run Try.prog (W.alloc (.cells (zb n) 4)) = .ok (.int .i64 (m : Nat)) wr ∧ Filled W wr n m := by
  have hr : (W.alloc (.cells (zb n) 4)).heap[W.heap.size]? = some (.cells (zb n) 4 (0, 0)) := heap_alloc_new W _
  have hxl : (W.alloc (.cells (zb n) 4)).cell? ⟨x, 0, none⟩ = some (.bool true) := by
    have : x < W.heap.size := by
      unfold World.cell? at hx
      cases e : W.heap[x]? with
      | none => simp [e] at hx
      | some o => exact blk_lt e
    exact ((below_alloc (Below.refl _ W) (.cells (zb n) 4)).cell (p := ⟨x, 0, none⟩) this).trans hx
  have h0 : Filled W (W.alloc (.cells (zb n) 4)) n 0 ∨ True := .inr trivial
  clear h0
  by_cases hn : n = 0
  · subst hn
    refine ⟨_, 0, ?_, Nat.le_refl _, fun h => absurd h (Nat.lt_irrefl _), hr, below_alloc (Below.refl _ W) _⟩
    have := copyB (W.alloc (.cells (zb 0) 4)) 3 W.heap.size 0 0 0 ⟨x, 0, none⟩ 1 1 0 (by simp) (by simp) (by simp) (by simp)
    simpa [World.setCells, goInt] using this
  · refine ⟨(W.alloc (.cells (zb n) 4)).setCells W.heap.size 0 (List.replicate 1 (.bool true)), 1, ?_, ?_⟩
    · have := copyB (W.alloc (.cells (zb n) 4)) 3 W.heap.size 0 n n ⟨x, 0, none⟩ 1 1 1 (by simp [Nat.min_def]; omega) (fun j hj => by
        have : j = 0 := by omega
        subst this
        simpa [Addr.add] using hxl) (fun j hj => by rw [blk_cell hr]; simp [zb, bcells]; omega) (fun j _ => blk_frozen hr _)
      simpa [goInt] using this
    · refine ⟨by omega, fun _ => by omega, ?_, ?_⟩
      · have := setCells_heap W.heap.size 4 (List.replicate 1 (.bool true)) 0 (bcells (part 0 n)) (W.alloc (.cells (zb n) 4)) (by rw [hr, zb]; simp [part]) (by rw [part_length _ _ (Nat.zero_le _)]; simp; omega)
        rw [part_grow 0 1 n (by omega)] at this
        simpa using this
      · have := setCells_kept (F := fun k => k = W.heap.size) W.heap.size rfl (List.replicate 1 (.bool true)) 0 (Kept.refl _ (W.alloc (.cells (zb n) 4)))
        exact (below_alloc (Below.refl _ W) _).trans (this.below (by rintro k hk rfl; omega) (by simp))

theorem Filled.drew {W wr : World} {n m : Nat} (h : Filled W wr n m) : Filled W wr.drew n m := ⟨h.le, h.pos, h.row, h.old.drew⟩

theorem Filled.more {W wr : World} {n m : Nat} (h : Filled W wr n m) (hm : m < n) :
    ∃ wr' k, (Builtin.copy_ #[43, 43] 3 #[.slice (some ⟨W.heap.size, m, none⟩) (n - m) (n - m), .slice (some ⟨W.heap.size, 0, none⟩) m n]).run Try.prog wr.drew = .ok (.int .i64 (k : Nat)) wr' ∧ 0 < k ∧ Filled W wr' n (m + k) := by
  have h' := h.drew
  have hp := h.pos (by omega)
  have hk : m + min m (n - m) ≤ n := by omega
  refine ⟨_, min m (n - m), ?_, by omega, h'.grow hk⟩
  have := copyB wr.drew 3 W.heap.size m (n - m) (n - m) ⟨W.heap.size, 0, none⟩ m n (min m (n - m)) rfl (fun j hj => by
    have e : (⟨W.heap.size, 0, none⟩ : Addr).add j = ⟨W.heap.size, j, none⟩ := by unfold Addr.add; split <;> simp_all
    rw [e, blk_cell h'.row]
    simpa using part_true m n j (by omega)) (fun j hj => by
    have := part_length m n h.le
    rw [blk_cell h'.row]; simp; omega) (fun j _ => blk_frozen h'.row _)
  simpa [goInt] using this

set_option maxHeartbeats 1000000 in
theorem repeat_any (W : World) (x n : Nat) (hx : W.cell? ⟨x, 0, none⟩ = some (.bool true)) (hn : n ≤ 1048576) :
    Calls Try.prog 35 #[.slice (some ⟨x, 0, none⟩) 1 1, .int .i64 n] W fun e W' =>
      e = .returned (.slice (some ⟨W.heap.size, 0, none⟩) n n) ∧ W'.heap[W.heap.size]? = some (.cells (bcells (List.replicate n true)).toArray 4 (0, 0)) ∧ Below W.heap.size W W' := by
  have mb := mk_b n hn
  obtain ⟨wr, m, hcp, hF⟩ := Filled.start (n := n) hx
  go_enter Try.func35, Try.ntmps35
  go_wp2_with fail
  refine (mul_one _ n hn).mono ?_
  rintro e w1 ⟨rfl, rfl⟩
  have HF := Lib.hid hF
  clear hF
  go_wp2_with fail
  go_loopw [8] (fun i wr => ∃ m : Nat, i = .int .i64 m ∧ Filled w1 wr n m) (fun i _ => n - (intOf i).toNat)
  case atStart => exact ⟨m, rfl, HF.out⟩
  case round =>
    obtain ⟨m, rfl, hF⟩ := hrel
    clear HF hcp mb
    have hle := hF.le
    have HF := Lib.hid hF
    clear hF
    by_cases hm : m < n
    · have hmi : (m : Int) < (n : Int) := by omega
      obtain ⟨wr', k, hcp, hk, hF'⟩ := HF.out.more hm
      have hle' := hF'.le
      have HF' := Lib.hid hF'
      clear hF'
      go_wp2
      go_region
      all_goals go_wp2
      go_roundw
      case rel => exact ⟨m + k, by go_num, HF'.out⟩
      case measure => simp [intOf]; omega
    · have hmn : m = n := by omega
      subst hmn
      go_wp2
      go_ret
      refine ⟨rfl, ?_, HF.out.old⟩
      have := HF.out.row
      simpa [part] using this
end Go.Proofs.Ytkgiddpeaebdfaa
