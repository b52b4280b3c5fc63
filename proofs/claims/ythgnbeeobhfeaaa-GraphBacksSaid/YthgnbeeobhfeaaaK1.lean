/- Texts of this claim in one file: PG. -/
set_option linter.all false
section
/- Graphs, in plain Lean: blocks, what a step makes of flags, and what moves on. -/
namespace Go.Proofs.Ythgnbeeobhfeaaa

/-- A change at a step. -/
structure Ch where
  blk : Int
  stp : Int
  gen : List Int
  kil : List Int
/-- A block: how many instructions, and where it goes. -/
structure Bk where
  ins : Nat
  to : List Int

def okTo (n : Nat) (l : List Int) : List Int := l.filter (fun x => decide (0 ≤ x) && decide (x < n))
/-- The blocks that a block goes to, that there are. -/
def succI (bs : List Bk) (i : Nat) : List Int := okTo bs.length ((bs[i]?.map Bk.to).getD [])
def edge (bs : List Bk) (i n : Nat) : Bool := (succI bs i).contains (n : Int)
def predsL (bs : List Bk) (n : Nat) : List Int := ((List.range bs.length).filter (fun i => edge bs i n)).map (fun i : Nat => (i : Int))

theorem mem_succI {bs : List Bk} {i : Nat} {x : Int} (h : x ∈ succI bs i) : 0 ≤ x ∧ x < bs.length := by
  simp only [succI, okTo, List.mem_filter, Bool.and_eq_true, decide_eq_true_eq] at h
  exact h.2
theorem edge_iff {bs : List Bk} {i n : Nat} : edge bs i n = true ↔ (n : Int) ∈ succI bs i := by simp [edge]
theorem edge_lt {bs : List Bk} {i n : Nat} (h : edge bs i n = true) : n < bs.length ∧ i < bs.length := by
  rw [edge_iff] at h
  refine ⟨by have := mem_succI h; omega, ?_⟩
  rcases Nat.lt_or_ge i bs.length with hl | hl
  · exact hl
  · simp [succI, List.getElem?_eq_none hl, okTo] at h

/-- Which blocks are reached. -/
inductive Rch (bs : List Bk) : Nat → Prop where
  | zero : 0 < bs.length → Rch bs 0
  | step {i n : Nat} : Rch bs i → edge bs i n = true → Rch bs n
theorem Rch.lt {bs : List Bk} {n : Nat} (h : Rch bs n) : n < bs.length := by
  cases h with
  | zero h => exact h
  | step _ h => exact (edge_lt h).1
open Classical in
noncomputable def rchB (bs : List Bk) (n : Nat) : Bool := decide (Rch bs n)
noncomputable def reachL (bs : List Bk) : List Bool := (List.range bs.length).map (rchB bs)
theorem rchB_iff {bs : List Bk} {n : Nat} : rchB bs n = true ↔ Rch bs n := by simp [rchB]

/-! ### Steps -/
def putL (now : List Bool) (l : List Int) (v : Bool) : List Bool := l.foldl (fun (s : List Bool) (n : Int) => if 0 ≤ n ∧ n < (s.length : Int) then s.set n.toNat v else s) now
def hits (cs : List Ch) (b k : Int) : List Ch := cs.filter (fun c => decide (c.blk = b) && decide (c.stp = k))
def stepL (cs : List Ch) (b k : Int) (now : List Bool) : List Bool :=
  (hits cs b k).foldl (fun s c => putL s c.gen true) ((hits cs b k).foldl (fun s c => putL s c.kil false) now)
def genB (cs : List Ch) (b k : Int) (j : Nat) : Bool := (hits cs b k).any (fun c => c.gen.contains (j : Int))
def kilB (cs : List Ch) (b k : Int) (j : Nat) : Bool := (hits cs b k).any (fun c => c.kil.contains (j : Int))
/-- What a step makes of one flag. -/
def stepB (cs : List Ch) (b k : Int) (j : Nat) (x : Bool) : Bool := genB cs b k j || (x && !kilB cs b k j)

theorem putL_cons (now : List Bool) (n : Int) (l : List Int) (v : Bool) : putL now (n :: l) v = putL (if 0 ≤ n ∧ n < (now.length : Int) then now.set n.toNat v else now) l v := rfl
theorem putL_length (l : List Int) (v : Bool) : ∀ now, (putL now l v).length = now.length := by
  induction l with
  | nil => intro now; rfl
  | cons n l ih =>
    intro now
    rw [putL_cons, ih]
    split
    · simp
    · rfl
theorem putL_get (l : List Int) (v : Bool) (j : Nat) : ∀ now : List Bool, j < now.length → (putL now l v)[j]? = if l.contains (j : Int) then some v else now[j]? := by
  induction l with
  | nil => intro now _; simp [putL]
  | cons n l ih =>
    intro now hj
    rw [putL_cons, ih _ (by split <;> simpa using hj)]
    by_cases hl : l.contains (j : Int) = true
    · have hc : (n :: l).contains (j : Int) = true := by simp at hl ⊢; exact .inr hl
      rw [if_pos hl, if_pos hc]
    · rw [if_neg hl]
      by_cases e : n = (j : Int)
      · have hc : (n :: l).contains (j : Int) = true := by simp [e]
        rw [if_pos hc, if_pos (by omega), e]
        simp [hj]
      · have hc : ¬ (n :: l).contains (j : Int) = true := by
          simp at hl ⊢
          exact ⟨fun q => e q.symm, hl⟩
        rw [if_neg hc]
        split
        · rename_i h
          rw [List.getElem?_set_ne (by omega)]
        · rfl
theorem foldGen_get (f : Ch → List Int) (v : Bool) (cs : List Ch) (j : Nat) : ∀ now : List Bool, j < now.length →
    (cs.foldl (fun s c => putL s (f c) v) now)[j]? = if cs.any (fun c => (f c).contains (j : Int)) then some v else now[j]? := by
  induction cs with
  | nil => intro now _; simp
  | cons c cs ih =>
    intro now hj
    rw [List.foldl_cons, ih _ (by rw [putL_length]; exact hj), putL_get _ _ _ _ hj, List.any_cons]
    cases h1 : cs.any (fun c => (f c).contains (j : Int)) <;> cases h2 : (f c).contains (j : Int) <;> simp
theorem foldGen_length (f : Ch → List Int) (v : Bool) (cs : List Ch) : ∀ now : List Bool, (cs.foldl (fun s c => putL s (f c) v) now).length = now.length := by
  induction cs with
  | nil => intro now; rfl
  | cons c cs ih => intro now; rw [List.foldl_cons, ih, putL_length]
theorem stepL_length (cs : List Ch) (b k : Int) (now : List Bool) : (stepL cs b k now).length = now.length := by rw [stepL, foldGen_length, foldGen_length]
theorem stepL_get {cs : List Ch} {b k : Int} {now : List Bool} {j : Nat} {x : Bool} (h : now[j]? = some x) : (stepL cs b k now)[j]? = some (stepB cs b k j x) := by
  have hj : j < now.length := (List.getElem?_eq_some_iff.1 h).1
  rw [stepL, foldGen_get _ _ _ _ _ (by rw [foldGen_length]; exact hj), foldGen_get _ _ _ _ _ hj, h, stepB, genB, kilB]
  cases (hits cs b k).any (fun c => c.gen.contains (j : Int)) <;> cases (hits cs b k).any (fun c => c.kil.contains (j : Int)) <;> simp
theorem stepB_mono {cs : List Ch} {b k : Int} {j : Nat} {x y : Bool} (h : x = true → y = true) (hx : stepB cs b k j x = true) : stepB cs b k j y = true := by
  simp only [stepB, Bool.or_eq_true, Bool.and_eq_true] at hx ⊢
  rcases hx with hx | ⟨hx, hk⟩
  · exact .inl hx
  · exact .inr ⟨h hx, hk⟩

/-- The states from a step on: r steps more. -/
def statesL (cs : List Ch) (b : Int) : Nat → Nat → List Bool → List (List Bool)
  | _, 0, now => [now]
  | k, r + 1, now => now :: statesL cs b (k + 1) r (stepL cs b k now)
/-- What r steps from a step on make of flags. -/
def runL (cs : List Ch) (b : Int) : Nat → Nat → List Bool → List Bool
  | _, 0, now => now
  | k, r + 1, now => runL cs b (k + 1) r (stepL cs b k now)
def runB (cs : List Ch) (b : Int) (j : Nat) : Nat → Nat → Bool → Bool
  | _, 0, x => x
  | k, r + 1, x => runB cs b j (k + 1) r (stepB cs b k j x)
theorem runL_get {cs : List Ch} {b : Int} {j : Nat} : ∀ (r k : Nat) {now : List Bool} {x : Bool}, now[j]? = some x → (runL cs b k r now)[j]? = some (runB cs b j k r x)
  | 0, _, _, _, h => h
  | r + 1, k, _, _, h => runL_get r (k + 1) (stepL_get h)
theorem runL_length {cs : List Ch} {b : Int} : ∀ (r k : Nat) (now : List Bool), (runL cs b k r now).length = now.length
  | 0, _, _ => rfl
  | r + 1, k, now => (runL_length r (k + 1) _).trans (stepL_length cs b k now)
theorem runB_mono {cs : List Ch} {b : Int} {j : Nat} : ∀ (r k : Nat) {x y : Bool}, (x = true → y = true) → runB cs b j k r x = true → runB cs b j k r y = true
  | 0, _, _, _, h, hx => h hx
  | r + 1, k, _, _, h, hx => runB_mono r (k + 1) (fun q => stepB_mono h q) hx
theorem statesL_length {cs : List Ch} {b : Int} : ∀ (r k : Nat) (now : List Bool), (statesL cs b k r now).length = r + 1
  | 0, _, _ => rfl
  | r + 1, k, now => by rw [statesL, List.length_cons, statesL_length r (k + 1)]
theorem statesL_get {cs : List Ch} {b : Int} : ∀ (r k : Nat) (now : List Bool) (i : Nat), i ≤ r → (statesL cs b k r now)[i]? = some (runL cs b k i now)
  | 0, k, now, i, h => by obtain rfl : i = 0 := by omega
                          rfl
  | r + 1, k, now, 0, _ => rfl
  | r + 1, k, now, i + 1, h => by
    rw [statesL, List.getElem?_cons_succ, statesL_get r (k + 1) _ i (by omega)]
    rfl
theorem runL_snoc {cs : List Ch} {b : Int} : ∀ (r k : Nat) (now : List Bool), runL cs b k (r + 1) now = stepL cs b ((k + r : Nat) : Int) (runL cs b k r now)
  | 0, k, now => rfl
  | r + 1, k, now => by
    rw [runL, runL_snoc r (k + 1), runL, show k + 1 + r = k + (r + 1) by omega]
theorem statesL_snoc {cs : List Ch} {b : Int} : ∀ (r k : Nat) (now : List Bool), statesL cs b k (r + 1) now = statesL cs b k r now ++ [runL cs b k (r + 1) now]
  | 0, k, now => rfl
  | r + 1, k, now => by
    rw [statesL, statesL_snoc r (k + 1)]
    rfl

/-! ### What moves on -/
/-- Flags that are not as all are at first: at places, of edges, and of what a block makes of a flag. -/
inductive Mv (e : Bool) (S : Nat → Prop) (T : Nat → Bool → Bool) (E : Nat → Nat → Prop) : Nat → Prop where
  | start {n : Nat} : S n → Mv e S T E n
  | gen {p n : Nat} : E p n → T p e ≠ e → Mv e S T E n
  | pass {p n : Nat} : E p n → Mv e S T E p → T p (!e) ≠ e → Mv e S T E n
open Classical in
/-- A flag's value, of what has moved. -/
noncomputable def mvV (e : Bool) (S : Nat → Prop) (T : Nat → Bool → Bool) (E : Nat → Nat → Prop) (n : Nat) : Bool := if Mv e S T E n then !e else e
section
variable {e : Bool} {S : Nat → Prop} {T : Nat → Bool → Bool} {E : Nat → Nat → Prop}
theorem mvV_ne {n : Nat} : mvV e S T E n ≠ e ↔ Mv e S T E n := by
  unfold mvV
  split
  · rename_i h; simp [h]
  · rename_i h; simp [h]
/-- What an edge brings. -/
theorem Mv.edge {p n : Nat} (hE : E p n) (h : T p (mvV e S T E p) ≠ e) : Mv e S T E n := by
  by_cases hp : Mv e S T E p
  · have : mvV e S T E p = !e := by simp [mvV, hp]
    rw [this] at h
    exact .pass hE hp h
  · have : mvV e S T E p = e := by simp [mvV, hp]
    rw [this] at h
    exact .gen hE h
/-- Monotone, whichever way. -/
theorem mono_ne {f : Bool → Bool} (hf : f false = true → f true = true) {e x y : Bool} (h : x ≠ e → y ≠ e) (hx : f x ≠ e) : f y ≠ e := by
  cases e <;> cases x <;> cases y <;> simp at * <;> simp [*] at * <;> (first | assumption | (cases h1 : f false <;> cases h2 : f true <;> simp [*] at *))
/-- What is so wherever all agrees is what has moved. -/
theorem Mv.least {v : Nat → Bool} (hT : ∀ p, T p false = true → T p true = true) (h0 : ∀ n, S n → v n ≠ e) (h1 : ∀ p n, E p n → T p (v p) ≠ e → v n ≠ e) {n : Nat} (h : Mv e S T E n) : v n ≠ e := by
  induction h with
  | start h => exact h0 _ h
  | gen hE hT' => exact h1 _ _ hE (mono_ne (hT _) (fun q => absurd rfl q) hT')
  | pass hE _ hT' ih => exact h1 _ _ hE (mono_ne (hT _) (fun _ => ih) hT')
end

/-! ### The two answers -/
/-- What holds at first: as many flags as asked for. -/
def firstL (N : Nat) (start : List Bool) : List Bool := (List.range N).map fun j => start.getD j false
/-- What a block makes of a flag. -/
def blockB (bs : List Bk) (cs : List Ch) (j p : Nat) (x : Bool) : Bool := runB cs (p : Int) j 0 ((bs[p]?.map Bk.ins).getD 0 + 1) x
theorem blockB_mono (bs : List Bk) (cs : List Ch) (j p : Nat) (h : blockB bs cs j p false = true) : blockB bs cs j p true = true := runB_mono _ _ (fun _ => rfl) h
noncomputable def inV (bs : List Bk) (start : List Bool) (cs : List Ch) (e : Bool) (j n : Nat) : Bool :=
  mvV e (fun m => m = 0 ∧ start.getD j false ≠ e) (blockB bs cs j) (fun p m => Rch bs p ∧ edge bs p m = true) n
noncomputable def inL (bs : List Bk) (N : Nat) (start : List Bool) (cs : List Ch) (e : Bool) (n : Nat) : List Bool := (List.range N).map fun j => inV bs start cs e j n
noncomputable def flowL (bs : List Bk) (N : Nat) (start : List Bool) (cs : List Ch) (e : Bool) : List (List (List Bool)) :=
  (List.range bs.length).map fun n : Nat => if rchB bs n then statesL cs (n : Int) 0 ((bs[n]?.map Bk.ins).getD 0 + 1) (inL bs N start cs e n) else []
/-- The states ahead of each step, from those behind the block on: r steps back from step r - 1. -/
def backStates (cs : List Ch) (b : Int) : Nat → List Bool → List (List Bool)
  | 0, now => [now]
  | r + 1, now => backStates cs b r (stepL cs b r now) ++ [now]
def backRun (cs : List Ch) (b : Int) : Nat → List Bool → List Bool
  | 0, now => now
  | r + 1, now => backRun cs b r (stepL cs b r now)
def backB (cs : List Ch) (b : Int) (j : Nat) : Nat → Bool → Bool
  | 0, x => x
  | r + 1, x => backB cs b j r (stepB cs b r j x)
theorem backRun_length {cs : List Ch} {b : Int} : ∀ (r : Nat) (now : List Bool), (backRun cs b r now).length = now.length
  | 0, _ => rfl
  | r + 1, now => (backRun_length r _).trans (stepL_length _ _ _ _)
theorem backRun_get {cs : List Ch} {b : Int} {j : Nat} : ∀ (r : Nat) {now : List Bool} {x : Bool}, now[j]? = some x → (backRun cs b r now)[j]? = some (backB cs b j r x)
  | 0, _, _, h => h
  | r + 1, _, _, h => backRun_get r (stepL_get h)
theorem backB_mono {cs : List Ch} {b : Int} {j : Nat} : ∀ (r : Nat) {x y : Bool}, (x = true → y = true) → backB cs b j r x = true → backB cs b j r y = true
  | 0, _, _, h, hx => h hx
  | r + 1, _, _, h, hx => backB_mono r (fun q => stepB_mono h q) hx
theorem backStates_length {cs : List Ch} {b : Int} : ∀ (r : Nat) (now : List Bool), (backStates cs b r now).length = r + 1
  | 0, _ => rfl
  | r + 1, now => by rw [backStates, List.length_append, backStates_length r]; rfl
theorem backStates_head {cs : List Ch} {b : Int} : ∀ (r : Nat) (now : List Bool), (backStates cs b r now)[0]? = some (backRun cs b r now)
  | 0, _ => rfl
  | r + 1, now => by
    rw [backStates, List.getElem?_append_left (by rw [backStates_length]; omega), backStates_head r]
    rfl
def blockU (bs : List Bk) (cs : List Ch) (j p : Nat) (x : Bool) : Bool := backB cs (p : Int) j ((bs[p]?.map Bk.ins).getD 0 + 1) x
theorem blockU_mono (bs : List Bk) (cs : List Ch) (j p : Nat) (h : blockU bs cs j p false = true) : blockU bs cs j p true = true := backB_mono _ (fun _ => rfl) h
/-- What is needed behind a block. -/
noncomputable def endV (bs : List Bk) (cs : List Ch) (j n : Nat) : Bool := mvV false (fun _ => False) (blockU bs cs j) (fun p m => edge bs m p = true) n
noncomputable def endL (bs : List Bk) (N : Nat) (cs : List Ch) (n : Nat) : List Bool := (List.range N).map fun j => endV bs cs j n
noncomputable def backL (bs : List Bk) (N : Nat) (cs : List Ch) : List (List (List Bool)) :=
  (List.range bs.length).map fun n : Nat => backStates cs (n : Int) ((bs[n]?.map Bk.ins).getD 0 + 1) (endL bs N cs n)
end Go.Proofs.Ythgnbeeobhfeaaa
end
