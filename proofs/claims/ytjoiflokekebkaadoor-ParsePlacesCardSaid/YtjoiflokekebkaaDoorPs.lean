/- Trees in memory that are only read. -/
import Derived.Test.YtjoiflokekebkaaDoorPr
set_option linter.all false
namespace Go.Proofs.YtjoiflokekebkaaDoor
open Go.RowKit

/-- The cell u leads to d, by cells that are there. -/
inductive See (W : World) : Value → D → Prop
  | v (x : Value) : See W x (.v x)
  | row {e : TypeId} {sz b o : Nat} {l : List (List D)} {A : Option Addr} {c : Nat} {xs : Nat → Nat → Value} (hc : l.length ≤ c) (hm : c ≤ maxLen) (hA : 0 < l.length → A = some ⟨b, o, none⟩)
      (hl : ∀ (i : Nat) (ds : List D), l[i]? = some ds → ds.length = sz)
      (hx : ∀ (i : Nat) (ds : List D) (j : Nat) (d : D), l[i]? = some ds → ds[j]? = some d → W.cell? ⟨b, o + i * sz + j, none⟩ = some (xs i j))
      (hr : ∀ (i : Nat) (ds : List D) (j : Nat) (d : D), l[i]? = some ds → ds[j]? = some d → See W (xs i j) d) : See W (.slice A l.length c) (.row e sz l)
def Sees (W : World) : List Value → List D → Prop
  | [], [] => True
  | u :: us, d :: ds => See W u d ∧ Sees W us ds
  | _, _ => False
section
variable {W W' : World} {u : Value} {d : D} {us us' : List Value} {ds ds' : List D} {e : TypeId} {sz : Nat} {l : List (List D)}
theorem See.bel (h : See W u d) (hb : Below W.heap.size W W') : See W' u d := by
  induction h with
  | v x => exact .v x
  | row hc hm hA hl hx _ ih => exact .row hc hm hA hl (fun i ds j d h1 h2 => (World.cell?_of_block (hb.block _ (World.block_lt_of_cell? W _ (hx i ds j d h1 h2)))).trans (hx i ds j d h1 h2)) ih
theorem Sees.below : ∀ {us : List Value} {ds : List D}, Sees W us ds → Below W.heap.size W W' → Sees W' us ds
  | [], [], _, _ => trivial
  | _ :: _, _ :: _, h, hb => ⟨h.1.bel hb, Sees.below h.2 hb⟩
  | [], _ :: _, h, _ => h.elim
  | _ :: _, [], h, _ => h.elim
theorem See.v_eq {x y : Value} (h : See W x (.v y)) : x = y := by
  generalize hd : D.v y = dd at h
  cases h with
  | v x => injection hd with hd; exact hd.symm
  | row => cases hd
theorem See.form (h : See W u (.row e sz l)) : ∃ (A : Option Addr) (c : Nat), u = .slice A l.length c ∧ l.length ≤ c ∧ c ≤ 9223372036854775807 := by
  cases h with
  | row hc hm => exact ⟨_, _, rfl, hc, hm⟩
/-- An element's cells. -/
theorem See.elt {A : Option Addr} {n c i : Nat} (h : See W (.slice A n c) (.row e sz l)) (hi : l[i]? = some ds) :
    ∃ b o, A = some ⟨b, o, none⟩ ∧ ∀ (j : Nat) (d : D), ds[j]? = some d → ∃ x, W.cell? ⟨b, o + i * sz + j, none⟩ = some x ∧ See W x d := by
  generalize hu : Value.slice A n c = u at h
  cases h with
  | @row _ _ b o _ A' c' xs hc hm hA hl hx hr =>
    injection hu with h1 h2 h3
    have hp : 0 < l.length := by have := (List.getElem?_eq_some_iff.1 hi).1; omega
    have hA' := hA hp
    subst h1
    exact ⟨b, o, hA', fun j d hd => ⟨_, hx i ds j d hi hd, hr i ds j d hi hd⟩⟩
theorem See.nil (W : World) (e : TypeId) (sz : Nat) : See W (.slice none 0 0) (.row e sz []) :=
  See.row (l := []) (b := 0) (o := 0) (xs := fun _ _ => .nilIface) (Nat.zero_le _) (Nat.zero_le _) (fun h => by simp at h) (fun i ds h => by simp at h) (fun i ds j d h => by simp at h) (fun i ds j d h => by simp at h)
theorem See.of_rd {ok : Nat → Prop} (h : Rd W ok u d) : See W u d := by
  induction h with
  | v x => exact .v x
  | @row ok e sz u l xs ho hk hl hr ih =>
    obtain ⟨hxl, ⟨rfl, h0⟩ | ⟨g, cap, cur, rfl, hb, hh, hc, hm, hs, ht⟩⟩ := ho
    · obtain rfl : l = [] := List.length_eq_zero_iff.1 h0
      exact .nil _ _ _
    · refine .row (b := g) (o := 0) (xs := fun i j => xs.getD (i * sz + j) .nilIface) hc hm (fun _ => rfl) hl (fun i ds j d h1 h2 => ?_) ih
      have hj : j < sz := by rw [← hl i ds h1]; exact (List.getElem?_eq_some_iff.1 h2).1
      have hi : i < l.length := (List.getElem?_eq_some_iff.1 h1).1
      have hlt : i * sz + j < xs.length := by
        rw [hxl]
        calc i * sz + j < i * sz + sz := by omega
          _ = (i + 1) * sz := by rw [Nat.add_mul, Nat.one_mul]
          _ ≤ l.length * sz := Nat.mul_le_mul_right _ (by omega)
      rw [Nat.zero_add, blk_cell hh, ← Array.getElem?_toList, List.getD_eq_getElem?_getD, List.getElem?_eq_getElem hlt]
      have h3 : xs[i * sz + j]? = some xs[i * sz + j] := List.getElem?_eq_getElem hlt
      have h4 : cur.toList[i * sz + j]? = some xs[i * sz + j] := by
        rw [← h3, ← ht, List.getElem?_take, if_pos (by rw [← hxl]; exact hlt)]
      exact h4
theorem Sees.of_rds {ok : Nat → Prop} : ∀ {us : List Value} {ds : List D}, Rds W ok us ds → Sees W us ds
  | [], [], _ => trivial
  | _ :: _, _ :: _, h => ⟨See.of_rd h.1, Sees.of_rds h.2⟩
  | [], _ :: _, h => h.elim
  | _ :: _, [], h => h.elim
theorem Sees.length : ∀ {us : List Value} {ds : List D}, Sees W us ds → us.length = ds.length
  | [], [], _ => rfl
  | _ :: _, _ :: _, h => by simp [Sees.length h.2]
  | [], _ :: _, h => h.elim
  | _ :: _, [], h => h.elim
end
end Go.Proofs.YtjoiflokekebkaaDoor
