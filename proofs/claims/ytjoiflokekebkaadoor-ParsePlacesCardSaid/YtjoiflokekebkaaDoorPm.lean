/- Trees in memory: what a cell leads to. -/
import Derived.Test.YtjoiflokekebkaaDoorPa
set_option linter.all false
namespace Go.Proofs.YtjoiflokekebkaaDoor
open Go.RowKit

/-- What a cell leads to: a plain value, or a row of so many elements of sz cells each. -/
inductive D where
  | v (x : Value)
  | row (e : TypeId) (sz : Nat) (l : List (List D))

/-- The cell u leads to d; ok is so of all blocks on the way, and no row's own block is in it. -/
inductive Rd (W : World) : (Nat → Prop) → Value → D → Prop
  | v {ok : Nat → Prop} (x : Value) : Rd W ok x (.v x)
  | row {ok : Nat → Prop} {e : TypeId} {sz : Nat} {u : Value} {l : List (List D)} {xs : List Value} (ho : W.ownsRow 0 e sz u l.length xs)
      (hk : ∀ k, u.ownBlock = some k → ok k) (hl : ∀ (i : Nat) (ds : List D), l[i]? = some ds → ds.length = sz)
      (hr : ∀ (i : Nat) (ds : List D) (j : Nat) (d : D), l[i]? = some ds → ds[j]? = some d → Rd W (fun k => ok k ∧ u.ownBlock ≠ some k) (xs.getD (i * sz + j) .nilIface) d) : Rd W ok u (.row e sz l)
/-- Cells, one by one. -/
def Rds (W : World) (ok : Nat → Prop) : List Value → List D → Prop
  | [], [] => True
  | u :: us, d :: ds => Rd W ok u d ∧ Rds W ok us ds
  | _, _ => False
section
variable {W W' : World} {ok ok' : Nat → Prop} {u : Value} {d : D} {us us' : List Value} {ds ds' : List D}
theorem Rd.mono (h : Rd W ok u d) (hok : ∀ k, ok k → ok' k) : Rd W ok' u d := by
  induction h generalizing ok' with
  | v x => exact .v x
  | row ho hk hl _ ih => exact .row ho (fun k e => hok k (hk k e)) hl (fun i ds j d h1 h2 => ih i ds j d h1 h2 (fun k hk => ⟨hok k hk.1, hk.2⟩))
theorem Rd.bound (h : Rd W ok u d) : Rd W (fun k => ok k ∧ k < W.heap.size) u d := by
  induction h with
  | v x => exact .v x
  | row ho hk hl _ ih => exact .row ho (fun k e => ⟨hk k e, blk_lt (row_lt ho k e).2.choose_spec⟩) hl (fun i ds j d h1 h2 => (ih i ds j d h1 h2).mono (fun k hk => ⟨⟨hk.1.1, hk.2⟩, hk.1.2⟩))
theorem Rd.move (h : Rd W ok u d) (hm : ∀ k, ok k → W'.heap[k]? = W.heap[k]?) : Rd W' ok u d := by
  induction h with
  | v x => exact .v x
  | row ho hk hl _ ih => exact .row (row_move ho (fun k e => hm k (hk k e))) hk hl (fun i ds j d h1 h2 => ih i ds j d h1 h2 (fun k hk => hm k hk.1))
theorem Rd.step (h : Rd W ok u d) (hm : ∀ k, ok k → k < W.heap.size → W'.heap[k]? = W.heap[k]?) : Rd W' ok u d := (h.bound.move (fun k hk => hm k hk.1 hk.2)).mono (fun _ hk => hk.1)
theorem Rd.bel (h : Rd W ok u d) (hb : Below W.heap.size W W') : Rd W' ok u d := h.step (fun k _ hk => hb.block k hk)
theorem Rd.grown (h : Rd W ok u d) {row : Option Nat} (hg : W.grownBy W' row) (hne : ∀ k, ok k → row ≠ some k) : Rd W' ok u d := h.step (fun k ho hk => hg.block k hk (fun e => hne k ho e.symm))
theorem Rd.far (h : Rd W ok u d) {p : Addr} (hok : ∀ k, ok k → k ≠ p.block) (x : Value) : Rd (W.setCell p x) ok u d := h.step (fun k ho _ => Below.heap_setCell W p x k (hok k ho))
theorem Rd.nil (W : World) (ok : Nat → Prop) (e : TypeId) (sz : Nat) : Rd W ok (.slice none 0 0) (.row e sz []) :=
  .row (xs := []) (W.ownsRow_nil 0 e sz) (fun k hk => by simp [Value.ownBlock] at hk) (fun i ds h => by simp at h) (fun i ds j d h => by simp at h)
theorem Rds.mono : ∀ {us : List Value} {ds : List D}, Rds W ok us ds → (∀ k, ok k → ok' k) → Rds W ok' us ds
  | [], [], _, _ => trivial
  | _ :: _, _ :: _, h, hok => ⟨h.1.mono hok, Rds.mono h.2 hok⟩
  | [], _ :: _, h, _ => h.elim
  | _ :: _, [], h, _ => h.elim
theorem Rds.step : ∀ {us : List Value} {ds : List D}, Rds W ok us ds → (∀ k, ok k → k < W.heap.size → W'.heap[k]? = W.heap[k]?) → Rds W' ok us ds
  | [], [], _, _ => trivial
  | _ :: _, _ :: _, h, hm => ⟨h.1.step hm, Rds.step h.2 hm⟩
  | [], _ :: _, h, _ => h.elim
  | _ :: _, [], h, _ => h.elim
theorem Rds.below (h : Rds W ok us ds) (hb : Below W.heap.size W W') : Rds W' ok us ds := h.step (fun k _ hk => hb.block k hk)
theorem Rds.grown (h : Rds W ok us ds) {row : Option Nat} (hg : W.grownBy W' row) (hne : ∀ k, ok k → row ≠ some k) : Rds W' ok us ds := h.step (fun k ho hk => hg.block k hk (fun e => hne k ho e.symm))
theorem Rds.far (h : Rds W ok us ds) {p : Addr} (hok : ∀ k, ok k → k ≠ p.block) (x : Value) : Rds (W.setCell p x) ok us ds := h.step (fun k ho _ => Below.heap_setCell W p x k (hok k ho))
theorem Rds.length : ∀ {us : List Value} {ds : List D}, Rds W ok us ds → us.length = ds.length
  | [], [], _ => rfl
  | _ :: _, _ :: _, h => by simp [Rds.length h.2]
  | [], _ :: _, h => h.elim
  | _ :: _, [], h => h.elim
theorem Rds.get : ∀ {us : List Value} {ds : List D}, Rds W ok us ds → ∀ (j : Nat) (d : D), ds[j]? = some d → Rd W ok (us.getD j .nilIface) d
  | [], [], _, j, d, hd => by simp at hd
  | _ :: _, _ :: _, h, 0, d, hd => by simp at hd; subst hd; exact h.1
  | _ :: us, _ :: ds, h, j + 1, d, hd => by simpa using Rds.get h.2 j d (by simpa using hd)
  | [], _ :: _, h, _, _, _ => h.elim
  | _ :: _, [], h, _, _, _ => h.elim
theorem Rds.app : ∀ {us us' : List Value} {ds ds' : List D}, Rds W ok us ds → Rds W ok us' ds' → Rds W ok (us ++ us') (ds ++ ds')
  | [], _, [], _, _, h => h
  | _ :: _, _, _ :: _, _, h, h' => ⟨h.1, Rds.app h.2 h'⟩
  | [], _, _ :: _, _, h, _ => h.elim
  | _ :: _, _, [], _, h, _ => h.elim
theorem Rds.of_get : ∀ {us : List Value} {ds : List D}, us.length = ds.length → (∀ (j : Nat) (d : D), ds[j]? = some d → Rd W ok (us.getD j .nilIface) d) → Rds W ok us ds
  | [], [], _, _ => trivial
  | u :: us, d :: ds, hl, h => ⟨h 0 d rfl, Rds.of_get (by simpa using hl) (fun j d hd => by simpa using h (j + 1) d (by simpa using hd))⟩
  | [], _ :: _, hl, _ => by simp at hl
  | _ :: _, [], hl, _ => by simp at hl
end

/-! ### Rows that are made, and grow -/
theorem getD_app_left {α : Type} {a b : List α} {i : Nat} {x : α} (h : i < a.length) : (a ++ b).getD i x = a.getD i x := by
  simp [List.getD_eq_getElem?_getD, List.getElem?_append_left h]
theorem getD_app_right {α : Type} {a b : List α} {i : Nat} {x : α} : (a ++ b).getD (a.length + i) x = b.getD i x := by
  rw [List.getD_eq_getElem?_getD, List.getD_eq_getElem?_getD, List.getElem?_append_right (by omega), Nat.add_sub_cancel_left]
section
variable {W W1 : World} {ok okp : Nat → Prop} {e : TypeId} {sz : Nat} {u u1 : Value} {l : List (List D)} {cs : List Value} {ds : List D}
/-- A row's own block, and its kind. -/
theorem Rd.owns (h : Rd W ok u (.row e sz l)) : ∃ xs, W.ownsRow 0 e sz u l.length xs ∧ (∀ k, u.ownBlock = some k → ok k) := by
  cases h with
  | row ho hk hl hr => exact ⟨_, ho, hk⟩
theorem Rd.slice (h : Rd W ok u (.row e sz l)) : ∃ A c, u = .slice A l.length c := by
  obtain ⟨xs, ho, _⟩ := h.owns
  exact row_slice ho
theorem Rd.lit (W : World) {e : TypeId} {sz : Nat} (hc : Rds W okp cs ds) (hs : ds.length = sz) (hok : ∀ k, W.heap.size ≤ k → ok k) (hokp : ∀ k, okp k → ok k) :
    Rd (W.alloc (.cells cs.toArray e)) ok (.slice (some ⟨W.heap.size, 0, none⟩) 1 1) (.row e sz [ds]) := by
  have hl := hc.length
  have ho : (W.alloc (.cells cs.toArray e)).ownsRow 0 e sz (.slice (some ⟨W.heap.size, 0, none⟩) 1 1) [ds].length cs := by
    have h := World.ownsRow_lit (base := 0) (e := e) (size := sz) W cs.toArray 1 (Nat.zero_le _) (by simp [maxLen]) (by simp; omega)
    simpa using h
  refine .row ho (fun k hk => ?_) (fun i ds' h => ?_) (fun i ds' j d h1 h2 => ?_)
  · simp [Value.ownBlock] at hk
    exact hok k (by omega)
  · cases i with
    | zero => simp at h; subst h; exact hs
    | succ i => simp at h
  · cases i with
    | zero =>
      simp at h1
      subst h1
      rw [Nat.zero_mul, Nat.zero_add]
      have h3 := (hc.below ((Below.refl W.heap.size W).alloc (Nat.le_refl _) (.cells cs.toArray e))).get j d h2
      have h4 : Rd (W.alloc (.cells cs.toArray e)) (fun k => okp k ∧ k < W.heap.size) (cs.getD j .nilIface) d := by
        have := (hc.get j d h2).bound.bel ((Below.refl W.heap.size W).alloc (Nat.le_refl _) (.cells cs.toArray e))
        exact this
      exact h4.mono (fun k hk => ⟨hokp k hk.1, by simp [Value.ownBlock]; omega⟩)
    | succ i => simp at h1
theorem Rd.grow (h : Rd W ok u (.row e sz l)) (hc : Rds W okp cs ds) (hs : ds.length = sz) (hfresh : ∀ k, W.heap.size ≤ k → ok k) (hokp : ∀ k, okp k → ok k ∧ u.ownBlock ≠ some k)
    (hrun : ∀ xs : List Value, W.ownsRow 0 e sz u l.length xs → W1.ownsRow 0 e sz u1 (l.length + 1) (xs ++ cs)) (hg : W.grownBy W1 u.ownBlock) (hat : u1.ownBlock = u.ownBlock ∨ ∃ b, u1.ownBlock = some b ∧ W.heap.size ≤ b) :
    Rd W1 ok u1 (.row e sz (l ++ [ds])) := by
  have hcl := hc.length
  cases h with
  | @row _ _ _ _ _ xs ho hk hl hr =>
    have hown := hrun xs ho
    have hxl : xs.length = l.length * sz := ho.1
    have hne : ∀ k, k < W.heap.size → u.ownBlock ≠ some k → u1.ownBlock ≠ some k := fun k hlt hn => by
      rcases hat with h | ⟨b, h, hb⟩
      · rw [h]; exact hn
      · rw [h]; intro q; injection q with q; omega
    refine .row (xs := xs ++ cs) (by simpa using hown) (fun k e1 => ?_) (fun i ds' h1 => ?_) (fun i ds' j d h1 h2 => ?_)
    · rcases hat with h | ⟨b, h, hb⟩
      · exact hk k (h ▸ e1)
      · rw [h] at e1; injection e1 with e1; exact hfresh k (by omega)
    · by_cases hi : i < l.length
      · rw [List.getElem?_append_left hi] at h1; exact hl i ds' h1
      · have hie : i = l.length := by have := (List.getElem?_eq_some_iff.1 h1).1; simp at this; omega
        subst hie; simp at h1; subst h1; exact hs
    · by_cases hi : i < l.length
      · rw [List.getElem?_append_left hi] at h1
        have hj : j < sz := by rw [← hl i ds' h1]; exact (List.getElem?_eq_some_iff.1 h2).1
        have hlt : i * sz + j < xs.length := by
          rw [hxl]
          calc i * sz + j < i * sz + sz := by omega
            _ = (i + 1) * sz := by rw [Nat.add_mul, Nat.one_mul]
            _ ≤ l.length * sz := Nat.mul_le_mul_right _ (by omega)
        rw [getD_app_left hlt]
        have h3 := (hr i ds' j d h1 h2).bound
        exact (h3.grown hg (fun k hk e1 => hk.1.2 (by rw [e1]))).mono (fun k hk => ⟨hk.1.1, hne k hk.2 hk.1.2⟩)
      · have hie : i = l.length := by have := (List.getElem?_eq_some_iff.1 h1).1; simp at this; omega
        subst hie
        simp at h1
        subst h1
        rw [← hxl, getD_app_right]
        have h3 := (hc.get j d h2).bound
        exact (h3.grown hg (fun k hk e1 => (hokp k hk.1).2 e1)).mono (fun k hk => ⟨(hokp k hk.1).1, hne k hk.2 (hokp k hk.1).2⟩)
end
section
variable {P : Program} {ops : Array Oper} {rest : List Oper} {o : Oper} {a : Act} {Q : Exit → Act → World → Prop} {Q' : Exit → Act → World → Prop} {Kc : Act → World → Prop}
theorem Rd.run_append {W : World} {ok okp : Nat → Prop} {e : TypeId} {sz : Nat} {u : Value} {l : List (List D)} {cs : List Value} {ds : List D} (t ty : TypeId) (z : Value) (bytes : Nat)
    (ht : P.underlying t = some (.slice e)) (hinfo : (P.info? e).map (fun i => (i.zero, i.size, i.bytes)) = some (some z, sz, bytes)) (hz : z.cells.size = sz) (hs0 : 0 < sz) (hb0 : 0 < bytes)
    (h : Rd W ok u (.row e sz l)) (hc : Rds W okp cs ds) (hs : ds.length = sz) (hfresh : ∀ k, W.heap.size ≤ k → ok k) (hokp : ∀ k, okp k → ok k ∧ u.ownBlock ≠ some k) (h1 : ∀ x ∈ cs, x.oneCell' = true)
    (hl : (l.length + 1) * bytes ≤ 140737488355328) :
    ∃ u1 W1, (Builtin.append_ #[t, t] ty #[u, .slice (some ⟨W.heap.size, 0, none⟩) 1 1]).run P (W.alloc (.cells cs.toArray e)) = .ok u1 W1 ∧ Rd W1 ok u1 (.row e sz (l ++ [ds])) ∧ W.grownBy W1 u.ownBlock ∧
      (u1.ownBlock = u.ownBlock ∨ ∃ b, u1.ownBlock = some b ∧ W.heap.size ≤ b) := by
  obtain ⟨xs, ho, _⟩ := h.owns
  obtain ⟨i0, hi, hzz⟩ := Option.map_eq_some_iff.1 hinfo
  simp only [Prod.mk.injEq] at hzz
  obtain ⟨hz0, hz1, hz2⟩ := hzz
  have hlen : l.length + 1 ≤ 140737488355328 := Nat.le_trans (Nat.le_mul_of_pos_right _ hb0) hl
  have hcl := hc.length
  have key : ∀ xs : List Value, W.ownsRow 0 e sz u l.length xs → ∃ u1 W1, (Builtin.append_ #[t, t] ty #[u, .slice (some ⟨W.heap.size, 0, none⟩) 1 1]).run P (W.alloc (.cells cs.toArray e)) = .ok u1 W1 ∧ W1.ownsRow 0 e sz u1 (l.length + 1) (xs ++ cs) ∧ (W.alloc (.cells cs.toArray e)).grownBy W1 u.ownBlock ∧ (u1.ownBlock = u.ownBlock ∨ u1.ownBlock = some (W.alloc (.cells cs.toArray e)).heap.size) := fun xs ho => by
    obtain ⟨v1, w1, hr, hown, hg, _, hat⟩ := run_append_own_at (P := P) (W.alloc (.cells cs.toArray e)) 0 t ty e i0 z sz bytes ht hi hz0 hz1 hz2 hz hs0 u l.length xs (ho.alloc _) ⟨W.heap.size, 0, none⟩ 1 1 cs (by omega)
      (cell_row rfl cs e) h1 (by simp only [maxLen]; omega) hl (Nat.zero_le _)
    exact ⟨v1, w1, hr, hown, hg, hat⟩
  obtain ⟨u1, W1, hr, hown, hg, hat⟩ := key xs ho
  have hg' : W.grownBy W1 u.ownBlock := World.grownBy.trans (World.grownBy_alloc W _ _) hg
  have hat' : u1.ownBlock = u.ownBlock ∨ ∃ b, u1.ownBlock = some b ∧ W.heap.size ≤ b := by
    rcases hat with hat | hat
    · exact .inl hat
    · exact .inr ⟨_, hat, by simp⟩
  refine ⟨u1, W1, hr, h.grow hc hs hfresh hokp (fun xs' ho' => ?_) hg' hat', hg', hat'⟩
  obtain ⟨u2, W2, hr2, hown2, _⟩ := key xs' ho'
  rw [hr] at hr2
  injection hr2 with e1 e2
  subst e1 e2
  exact hown2
theorem Rd.append_at {W : World} {ok okp : Nat → Prop} {e : TypeId} {sz : Nat} {u : Value} {l : List (List D)} {cs : List Value} {ds : List D} (hgd : o.guard = none) (s x : Operand) (t : TypeId) (z : Value) (bytes : Nat)
    (ho : o.op = .call { callee := .builtin .append, args := #[s, x], argTypes := #[t, t] })
    (ht : P.underlying t = some (.slice e)) (hinfo : (P.info? e).map (fun i => (i.zero, i.size, i.bytes)) = some (some z, sz, bytes)) (hz : z.cells.size = sz) (hs0 : 0 < sz) (hb0 : 0 < bytes)
    (hs : a.eval s = u) (hx : a.eval x = .slice (some ⟨W.heap.size, 0, none⟩) 1 1)
    (h : Rd W ok u (.row e sz l)) (hc : Rds W okp cs ds) (hds : ds.length = sz) (hfresh : ∀ k, W.heap.size ≤ k → ok k) (hokp : ∀ k, okp k → ok k ∧ u.ownBlock ≠ some k) (h1 : ∀ x ∈ cs, x.oneCell' = true)
    (hl : (l.length + 1) * bytes ≤ 140737488355328)
    (hk : ∀ u1 W1, Rd W1 ok u1 (.row e sz (l ++ [ds])) → W.grownBy W1 u.ownBlock → (u1.ownBlock = u.ownBlock ∨ ∃ b, u1.ownBlock = some b ∧ W.heap.size ≤ b) → wpList P ops Q rest (a.put o.dst u1) W1) :
    wpList P ops Q (o :: rest) a (W.alloc (.cells cs.toArray e)) := by
  refine wpList_plain hgd fun K hK => ?_
  obtain ⟨u1, W1, hr, h2, h3, h4⟩ := Rd.run_append (P := P) t o.type z bytes ht hinfo hz hs0 hb0 h hc hds hfresh hokp h1 hl
  unfold Oper.wp execOp
  simp only [ho, resolve, invoke, builtin, Sem.run_bind, Sem.run_pure, Result.andThen_ok, List.map_toArray, List.map_cons, List.map_nil, hs, hx, hr]
  exact hK _ _ (hk u1 W1 h2 h3 h4)
end
end Go.Proofs.YtjoiflokekebkaaDoor
