/- The document's memory (a row of allocations, a row of what was stored): its plain model, how it lies, and what reads it. -/
import Derived.Test.YtkgiddpeaebdfaaW9
import Derived.LoopTactic
namespace Go.Proofs.Ytkgiddpeaebdfaa
open Go.RowKit

structure Ce where
  a : Int
  n : Int
  w : Wd

structure Rf where
  room : Int
  bl : List (Int × Bool)
  ce : List Ce

def blc (l : List (Int × Bool)) : List Value := l.flatMap fun x => [.int .i64 x.1, .bool x.2]
def cec (l : List Ce) : List Value := l.flatMap fun x => [.int .i64 x.a, .int .i64 x.n, .bool x.w.p, .int .i64 x.w.a, .int .i64 x.w.n]

theorem blc_length (l : List (Int × Bool)) : (blc l).length = l.length * 2 := by
  induction l with
  | nil => rfl
  | cons x l ih => simp [blc] at ih ⊢; omega
theorem cec_length (l : List Ce) : (cec l).length = l.length * 5 := by
  induction l with
  | nil => rfl
  | cons x l ih => simp [cec] at ih ⊢; omega
theorem blc_at (l : List (Int × Bool)) (i : Nat) (x : Int × Bool) (h : l[i]? = some x) : (blc l)[i * 2]? = some (.int .i64 x.1) ∧ (blc l)[i * 2 + 1]? = some (.bool x.2) := by
  induction l generalizing i with
  | nil => simp at h
  | cons y l ih =>
    cases i with
    | zero => simp at h; subst h; simp [blc]
    | succ i =>
      have := ih i (by simpa using h)
      have e : (i + 1) * 2 = i * 2 + 2 := by omega
      simpa [blc, e] using this
theorem cec_at (l : List Ce) (i : Nat) (x : Ce) (h : l[i]? = some x) :
    (cec l)[i * 5]? = some (.int .i64 x.a) ∧ (cec l)[i * 5 + 1]? = some (.int .i64 x.n) ∧ (cec l)[i * 5 + 2]? = some (.bool x.w.p) ∧ (cec l)[i * 5 + 3]? = some (.int .i64 x.w.a) ∧ (cec l)[i * 5 + 4]? = some (.int .i64 x.w.n) := by
  induction l generalizing i with
  | nil => simp at h
  | cons y l ih =>
    cases i with
    | zero => simp at h; subst h; simp [cec]
    | succ i =>
      have := ih i (by simpa using h)
      have e : (i + 1) * 5 = i * 5 + 5 := by omega
      simpa [cec, e] using this
theorem blc_append (a b : List (Int × Bool)) : blc (a ++ b) = blc a ++ blc b := by simp [blc]
theorem cec_append (a b : List Ce) : cec (a ++ b) = cec a ++ cec b := by simp [cec]
theorem blc_set (l : List (Int × Bool)) (i : Nat) (x : Int × Bool) : blc (l.set i x) = ((blc l).set (i * 2) (.int .i64 x.1)).set (i * 2 + 1) (.bool x.2) := by
  induction l generalizing i with
  | nil => simp [blc]
  | cons y l ih =>
    cases i with
    | zero => simp [blc]
    | succ i =>
      have := ih i
      have e : (i + 1) * 2 = i * 2 + 2 := by omega
      simp [blc, e] at this ⊢
      exact this

def Rf.new (n : Int) : Rf := ⟨min (max n 0) 1048576, [], []⟩
def Rf.at (R : Rf) (a : Int) : Int × Bool := R.bl.getD (a.toNat - 1) (0, true)
def Rf.words (R : Rf) : Int := ((R.bl.filter fun x => !x.2).map fun x => x.1).sum
def Rf.live (R : Rf) : Int := (R.bl.filter fun x => !x.2).length
def Rf.check (R : Rf) (b : Bool) (a : Int) : Int := if b = false then 11 else if a < 1 ∨ (R.bl.length : Int) < a then 13 else if (R.at a).2 = true then 12 else 0
def Rf.has (R : Rf) (a n k : Int) : Bool := decide (0 ≤ n) && decide (k ≤ (R.at a).1) && decide (n ≤ (R.at a).1 - k)
def Rf.find (R : Rf) (a n : Int) : Option Ce := R.ce.find? fun x => x.a == a && x.n == n
def Rf.loadE (R : Rf) (b : Bool) (a n : Int) : Int := if R.check b a ≠ 0 then R.check b a else if R.has a n 1 = false then 13 else if (R.find a n).isSome = true then 0 else 14
def Rf.loadW (R : Rf) (b : Bool) (a n : Int) : Wd := if R.loadE b a n = 0 then ((R.find a n).map Ce.w).getD Wd.zero else Wd.zero

/-- How it lies: a struct of three, two rows that are its own. -/
structure RefAt (B : Nat) (W : World) (g : Nat) (F : Nat → Prop) (R : Rf) (v1 v2 : Value) : Prop where
  hg : W.heap[g]? = some (.cells #[.int .i64 R.room, v1, v2] 55 (0, 0))
  fg : F g
  rb : W.ownsRow B 57 2 v1 R.bl.length (blc R.bl)
  rc : W.ownsRow B 72 5 v2 R.ce.length (cec R.ce)
  fb : ∀ k, v1.ownBlock = some k → F k
  fc : ∀ k, v2.ownBlock = some k → F k
  low : ∀ k, F k → B ≤ k ∧ k < W.heap.size
  room0 : 0 ≤ R.room ∧ R.room ≤ 1048576
  few : R.bl.length ≤ 1000 ∧ R.ce.length ≤ 1000000 ∧ ∀ x ∈ R.bl, 0 ≤ x.1 ∧ x.1 ≤ 1048576

theorem or_lt {w : World} {base : Nat} {e : TypeId} {size n : Nat} {v : Value} {xs : List Value} (h : w.ownsRow base e size v n xs) (k : Nat) (hk : v.ownBlock = some k) : base ≤ k ∧ ∃ cells, w.heap[k]? = some (.cells cells e (0, 0)) := by
  obtain ⟨_, ⟨rfl, _⟩ | ⟨g, cap, cur, hv, hb, hh, _⟩⟩ := h
  · simp [Value.ownBlock] at hk
  · rw [hv] at hk
    simp [Value.ownBlock] at hk
    exact hk ▸ ⟨hb, _, hh⟩
theorem or_move {w w1 : World} {base : Nat} {e : TypeId} {size n : Nat} {v : Value} {xs : List Value} (h : w.ownsRow base e size v n xs) (hm : ∀ k, v.ownBlock = some k → w1.heap[k]? = w.heap[k]?) : w1.ownsRow base e size v n xs := by
  obtain ⟨h1, h2⟩ := h
  refine ⟨h1, ?_⟩
  rcases h2 with h2 | ⟨g, cap, cur, hv, hg, hh, r⟩
  · exact .inl h2
  · exact .inr ⟨g, cap, cur, hv, hg, (hm g (by rw [hv]; rfl)).trans hh, r⟩
theorem or_slice {w : World} {base : Nat} {e : TypeId} {size n : Nat} {v : Value} {xs : List Value} (h : w.ownsRow base e size v n xs) : ∃ A c, v = .slice A n c := by
  obtain ⟨_, ⟨rfl, rfl⟩ | ⟨g, cap, cur, hv, _⟩⟩ := h
  · exact ⟨_, _, rfl⟩
  · exact ⟨_, _, hv⟩
theorem or_at {w : World} {base : Nat} {e : TypeId} {size n : Nat} {A : Option Addr} {c : Nat} {xs : List Value} (h : w.ownsRow base e size (.slice A n c) n xs) (h0 : 0 < n) :
    ∃ g, A = some ⟨g, 0, none⟩ ∧ base ≤ g ∧ g < w.heap.size ∧ (∀ i, w.frozen? ⟨g, i, none⟩ = false) ∧ ∀ j u, xs[j]? = some u → w.cell? ⟨g, j, none⟩ = some u := by
  obtain ⟨hl, ⟨_, rfl⟩ | ⟨g, cap, cur, hv, hb, hh, _, _, _, ht⟩⟩ := h
  · omega
  · injection hv with hv
    refine ⟨g, hv, hb, blk_lt hh, fun i => blk_frozen hh i, fun j u hj => ?_⟩
    rw [blk_cell hh, ← Array.getElem?_toList]
    rw [← ht] at hj
    rw [List.getElem?_take] at hj
    split at hj
    · exact hj
    · cases hj

section
variable {B : Nat} {W W' : World} {g : Nat} {F : Nat → Prop} {R : Rf} {v1 v2 : Value}
theorem RefAt.move (h : RefAt B W g F R v1 v2) (hs : W.heap.size ≤ W'.heap.size) (hm : ∀ k, F k → W'.heap[k]? = W.heap[k]?) : RefAt B W' g F R v1 v2 :=
  ⟨(hm g h.fg).trans h.hg, h.fg, or_move h.rb (fun k hk => hm k (h.fb k hk)), or_move h.rc (fun k hk => hm k (h.fc k hk)), h.fb, h.fc, fun k hk => ⟨(h.low k hk).1, Nat.lt_of_lt_of_le (h.low k hk).2 hs⟩, h.room0, h.few⟩
theorem RefAt.below (h : RefAt B W g F R v1 v2) (hb : Below W.heap.size W W') : RefAt B W' g F R v1 v2 := h.move hb.size (fun k hk => hb.block k (h.low k hk).2)
theorem RefAt.see (h : RefAt B W g F R v1 v2) : g < W.heap.size ∧ W.cell? ⟨g, 0, none⟩ = some (.int .i64 R.room) ∧ W.cell? ⟨g, 1, none⟩ = some v1 ∧ W.cell? ⟨g, 2, none⟩ = some v2 ∧ ∀ i, W.frozen? ⟨g, i, none⟩ = false := by
  refine ⟨blk_lt h.hg, ?_, ?_, ?_, fun i => blk_frozen h.hg i⟩ <;> rw [blk_cell h.hg] <;> rfl
end

theorem Rf.at_get {R : Rf} {a : Int} (h1 : 1 ≤ a) (h2 : a ≤ R.bl.length) : R.bl[a.toNat - 1]? = some (R.at a) := by
  unfold Rf.at
  rw [List.getD_eq_getElem?_getD, List.getElem?_eq_getElem (by omega)]
  rfl

theorem rcheck_any {B : Nat} {W : World} {g : Nat} {F : Nat → Prop} {R : Rf} {v1 v2 : Value} (h : RefAt B W g F R v1 v2) (b : Bool) (a n : Int) :
    Calls Try.prog 36 #[.pointer (some ⟨g, 0, none⟩), .agg #[.bool b, .int .i64 a, .int .i64 n]] W fun e W' => e = .returned (.int .i64 (R.check b a)) ∧ Below W.heap.size W W' := by
  obtain ⟨c0, c1, c2, c3, c4⟩ := h.see
  have few := h.few.1
  cases b
  · have e : R.check false a = 11 := by simp [Rf.check]
    rw [e]
    go_enter Try.func36, Try.ntmps36
    go_wp2
    go_ret
    exact ⟨rfl, by repeat (first | exact Below.refl _ _ | apply below_alloc | apply below_drewN)⟩
  · obtain ⟨A, cap, rfl⟩ := or_slice h.rb
    by_cases h1 : a < 1
    · have e : R.check true a = 13 := by simp [Rf.check, h1]
      rw [e]
      clear h
      go_enter Try.func36, Try.ntmps36
      go_wp2
      go_quiet (fail)
      go_wp2
      go_ret
      exact ⟨rfl, by repeat (first | exact Below.refl _ _ | apply below_alloc | apply below_drewN)⟩
    · have d1 : decide (a < 1) = false := by simpa using h1
      by_cases h2 : (R.bl.length : Int) < a
      · have e : R.check true a = 13 := by simp [Rf.check, h2]
        rw [e]
        clear h
        go_enter Try.func36, Try.ntmps36
        go_wp2
        go_quiet (fail)
        go_wp2
        go_ret
        exact ⟨rfl, by repeat (first | exact Below.refl _ _ | apply below_alloc | apply below_drewN)⟩
      · obtain ⟨gb, rfl, hb, hlt, _, hcells⟩ := or_at h.rb (by omega)
        have hx := hcells _ _ (blc_at R.bl _ _ (R.at_get (a := a) (by omega) (by omega))).2
        have d2 : decide ((R.bl.length : Int) < a) = false := by simpa using h2
        have e : R.check true a = if (R.at a).2 = true then 12 else 0 := by simp [Rf.check, h1, h2]
        rw [e]
        clear e hcells h
        have h3 : 0 ≤ a - 1 := by omega
        have h4 : a - 1 < (R.bl.length : Int) := by omega
        generalize (R.at a).2 = f at *
        cases f
        · go_enter Try.func36, Try.ntmps36
          go_wp2
          go_quiet (fail)
          go_wp2
          go_quiet (fail)
          go_wp2
          go_ret
          exact ⟨rfl, by repeat (first | exact Below.refl _ _ | apply below_alloc | apply below_drewN)⟩
        · go_enter Try.func36, Try.ntmps36
          go_wp2
          go_quiet (fail)
          go_wp2
          go_quiet (fail)
          go_wp2
          go_ret
          exact ⟨rfl, by repeat (first | exact Below.refl _ _ | apply below_alloc | apply below_drewN)⟩

theorem rhas_any {B : Nat} {W : World} {g : Nat} {F : Nat → Prop} {R : Rf} {v1 v2 : Value} (h : RefAt B W g F R v1 v2) (b : Bool) (a n k : Int) (hc : R.check b a = 0) (hk : 0 ≤ k) (hk2 : k ≤ 1048576) :
    Calls Try.prog 37 #[.pointer (some ⟨g, 0, none⟩), .agg #[.bool b, .int .i64 a, .int .i64 n], .int .i64 k] W fun e W' => e = .returned (.bool (R.has a n k)) ∧ Below W.heap.size W W' := by
  obtain ⟨c0, c1, c2, c3, c4⟩ := h.see
  have few := h.few.1
  have hr : 1 ≤ a ∧ a ≤ R.bl.length := by
    unfold Rf.check at hc
    split at hc
    · simp at hc
    · split at hc
      · simp at hc
      · omega
  obtain ⟨A, cap, rfl⟩ := or_slice h.rb
  obtain ⟨gb, rfl, hb, hlt, _, hcells⟩ := or_at h.rb (by omega)
  have hx := hcells _ _ (blc_at R.bl _ _ (R.at_get hr.1 hr.2)).1
  have hN := h.few.2.2 _ (List.mem_of_getElem? (R.at_get hr.1 hr.2))
  have h3 : 0 ≤ a - 1 := by omega
  have h4 : a - 1 < (R.bl.length : Int) := by omega
  have e : R.has a n k = (decide (0 ≤ n) && decide (k ≤ (R.at a).1) && decide (n ≤ (R.at a).1 - k)) := rfl
  rw [e]
  clear hcells h hc hr e
  generalize (R.at a).1 = N at *
  obtain ⟨n0, n1⟩ := hN
  go_enter Try.func37, Try.ntmps37
  go_wp2
  go_quiet (fail)
  by_cases g1 : 0 ≤ n
  · by_cases g2 : k ≤ N
    · go_wp2
      go_ret
      exact ⟨by simp [g1, g2], by repeat (first | exact Below.refl _ _ | apply below_alloc | apply below_drewN)⟩
    · go_wp2
      go_ret
      exact ⟨by simp [g1, g2] <;> (intros; omega), by repeat (first | exact Below.refl _ _ | apply below_alloc | apply below_drewN)⟩
  · go_wp2
    go_ret
    exact ⟨by simp [g1] <;> (intros; omega), by repeat (first | exact Below.refl _ _ | apply below_alloc | apply below_drewN)⟩

end Go.Proofs.Ytkgiddpeaebdfaa
