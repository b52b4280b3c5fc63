/- Reading trees in memory: elements of rows. -/
import Derived.Test.YtjoiflokekebkaaDoorPs
import Derived.Test.YtjoiflokekebkaaDoorK1
set_option linter.all false
namespace Go.Proofs.YtjoiflokekebkaaDoor
open Go.RowKit

section
variable {W W' : World} {A : Option Addr} {n c i : Nat} {e : TypeId} {sz : Nat}
theorem See.elts {l : List (List D)} {ds : List D} (h : See W (.slice A n c) (.row e sz l)) (hi : l[i]? = some ds) :
    ∃ b o cs, A = some ⟨b, o, none⟩ ∧ Sees W cs ds ∧ ∀ (j : Nat) (x : Value), cs[j]? = some x → W.cell? ⟨b, o + i * sz + j, none⟩ = some x := by
  obtain ⟨b, o, hA, hx⟩ := h.elt hi
  have key : ∀ (k : Nat) (es : List D), (∀ (j : Nat) (d : D), es[j]? = some d → ∃ x, W.cell? ⟨b, o + i * sz + (k + j), none⟩ = some x ∧ See W x d) →
      ∃ cs, Sees W cs es ∧ ∀ (j : Nat) (x : Value), cs[j]? = some x → W.cell? ⟨b, o + i * sz + (k + j), none⟩ = some x := by
    intro k es
    induction es generalizing k with
    | nil => exact fun _ => ⟨[], trivial, fun j x h => by simp at h⟩
    | cons d es ih =>
      intro hj
      obtain ⟨x, h1, h2⟩ := hj 0 d rfl
      obtain ⟨cs, h3, h4⟩ := ih (k + 1) (fun j d hd => by
        obtain ⟨y, h5, h6⟩ := hj (j + 1) d (by simpa using hd)
        exact ⟨y, by rw [← h5]; congr 2; omega, h6⟩)
      refine ⟨x :: cs, ⟨h2, h3⟩, fun j y hy => ?_⟩
      cases j with
      | zero => simp at hy; subst hy; exact h1
      | succ j => simp at hy; rw [← h4 j y hy]; congr 2; omega
  obtain ⟨cs, h1, h2⟩ := key 0 ds (fun j d hd => by rw [Nat.zero_add]; exact hx j d hd)
  exact ⟨b, o, cs, hA, h1, fun j x h => by have := h2 j x h; rwa [Nat.zero_add] at this⟩
theorem See.same {u : Value} {d d' : D} (h : See W u d) (e : d = d') : See W u d' := e ▸ h
end
theorem Ty.ds_map (l : List Ty) : Ty.ds l = l.map Ty.d := by
  induction l with
  | nil => simp [Ty.ds]
  | cons t l ih => simp [Ty.ds, ih]
theorem Stm.ds_map (l : List Stm) : Stm.ds l = l.map Stm.d := by
  induction l with
  | nil => simp [Stm.ds]
  | cons t l ih => simp [Stm.ds, ih]
theorem Arm.ds_map (l : List Arm) : Arm.ds l = l.map Arm.d := by
  induction l with
  | nil => simp [Arm.ds]
  | cons t l ih => simp [Arm.ds, ih]
section
variable {W : World} {cs : List Value}
theorem Ty.open {t : Ty} (h : Sees W cs t.d) : ∃ u, cs = [.int .i64 t.k, .string t.n, u] ∧ See W u (.row 53 3 (t.l.map Ty.d)) := by
  obtain ⟨k, n, l⟩ := t
  simp only [Ty.d, Ty.ds_map] at h
  match cs, h with
  | [a, b, u], h =>
    obtain ⟨h1, h2, h3, _⟩ := h
    obtain rfl := h1.v_eq
    obtain rfl := h2.v_eq
    exact ⟨u, rfl, h3⟩
theorem Fld.open {f : Fld} (h : Sees W cs f.d) : ∃ u, cs = [.string f.n, .int .i64 f.t.k, .string f.t.n, u] ∧ See W u (.row 53 3 (f.t.l.map Ty.d)) := by
  match cs, h with
  | a :: r, h =>
    obtain ⟨h1, h2⟩ := h
    obtain rfl := h1.v_eq
    obtain ⟨u, rfl, hu⟩ := Ty.open h2
    exact ⟨u, rfl, hu⟩
theorem Str.open {x : Str} (h : Sees W cs x.d) : ∃ u, cs = [.string x.n, .bool x.drop, u, .int .i64 x.at_] ∧ See W u (.row 96 4 (x.fs.map Fld.d)) := by
  match cs, h with
  | [a, b, u, d], h =>
    obtain ⟨h1, h2, h3, h4, _⟩ := h
    obtain rfl := h1.v_eq
    obtain rfl := h2.v_eq
    obtain rfl := h4.v_eq
    exact ⟨u, rfl, h3⟩
theorem Enm.open {x : Enm} (h : Sees W cs x.d) : ∃ u, cs = [.string x.n, u, .int .i64 x.at_] ∧ See W u (.row 99 4 (x.vs.map Fld.d)) := by
  match cs, h with
  | [a, u, d], h =>
    obtain ⟨h1, h3, h4, _⟩ := h
    obtain rfl := h1.v_eq
    obtain rfl := h4.v_eq
    exact ⟨u, rfl, h3⟩
theorem Fnc.open {x : Fnc} (h : Sees W cs x.d) : ∃ u v, cs = [.string x.n, u, v, .int .i64 x.at_] ∧ See W u (.row 96 4 (x.ps.map Fld.d)) ∧ See W v (.row 65 21 (x.b.map Stm.d)) := by
  simp only [Fnc.d, Stm.ds_map] at h
  match cs, h with
  | [a, u, v, d], h =>
    obtain ⟨h1, h2, h3, h4, _⟩ := h
    obtain rfl := h1.v_eq
    obtain rfl := h4.v_eq
    exact ⟨u, v, rfl, h2, h3⟩
theorem Src.open {s : Src} (h : Sees W cs s.d) : ∃ u v w, cs = [u, v, w] ∧ See W u (.row 41 4 (s.ss.map Str.d)) ∧ See W v (.row 44 3 (s.es.map Enm.d)) ∧ See W w (.row 38 4 (s.fs.map Fnc.d)) := by
  match cs, h with
  | [u, v, w], h =>
    obtain ⟨h1, h2, h3, _⟩ := h
    exact ⟨u, v, w, rfl, h1, h2, h3⟩
end
/-- A row of things of four cells: an element's cells. -/
theorem See.at4 {α : Type} {f : α → List D} {W : World} {A : Option Addr} {n c i : Nat} {e : TypeId} {l : List α} {x : α} (h : See W (.slice A n c) (.row e 4 (l.map f))) (hi : l[i]? = some x) (h4 : (f x).length = 4) :
    ∃ b o x0 x1 x2 x3, A = some ⟨b, o, none⟩ ∧ Sees W [x0, x1, x2, x3] (f x) ∧ W.cell? ⟨b, o + i * 4, none⟩ = some x0 ∧ W.cell? ⟨b, o + i * 4 + 1, none⟩ = some x1 ∧ W.cell? ⟨b, o + i * 4 + 2, none⟩ = some x2 ∧ W.cell? ⟨b, o + i * 4 + 3, none⟩ = some x3 := by
  obtain ⟨b, o, cs, hA, hs, hc⟩ := h.elts (by rw [List.getElem?_map, hi]; rfl)
  have hl := hs.length
  rw [h4] at hl
  match cs, hl with
  | [x0, x1, x2, x3], _ => exact ⟨b, o, x0, x1, x2, x3, hA, hs, hc 0 _ rfl, hc 1 _ rfl, hc 2 _ rfl, hc 3 _ rfl⟩
theorem See.at3 {α : Type} {f : α → List D} {W : World} {A : Option Addr} {n c i : Nat} {e : TypeId} {l : List α} {x : α} (h : See W (.slice A n c) (.row e 3 (l.map f))) (hi : l[i]? = some x) (h4 : (f x).length = 3) :
    ∃ b o x0 x1 x2, A = some ⟨b, o, none⟩ ∧ Sees W [x0, x1, x2] (f x) ∧ W.cell? ⟨b, o + i * 3, none⟩ = some x0 ∧ W.cell? ⟨b, o + i * 3 + 1, none⟩ = some x1 ∧ W.cell? ⟨b, o + i * 3 + 2, none⟩ = some x2 := by
  obtain ⟨b, o, cs, hA, hs, hc⟩ := h.elts (by rw [List.getElem?_map, hi]; rfl)
  have hl := hs.length
  rw [h4] at hl
  match cs, hl with
  | [x0, x1, x2], _ => exact ⟨b, o, x0, x1, x2, hA, hs, hc 0 _ rfl, hc 1 _ rfl, hc 2 _ rfl⟩
theorem Ty.d_len (t : Ty) : t.d.length = 3 := by cases t; simp [Ty.d]
theorem Fld.d_len (f : Fld) : f.d.length = 4 := by simp [Fld.d, Ty.d_len]
theorem Str.d_len (f : Str) : f.d.length = 4 := rfl
theorem Enm.d_len (f : Enm) : f.d.length = 3 := rfl
theorem Fnc.d_len (f : Fnc) : f.d.length = 4 := rfl
/-- A row, its length, and its value. -/
theorem See.formOf {α : Type} {f : α → List D} {W : World} {u : Value} {e : TypeId} {sz : Nat} {l : List α} (h : See W u (.row e sz (l.map f))) : ∃ (A : Option Addr) (c : Nat), u = .slice A l.length c ∧ l.length ≤ c ∧ c ≤ 9223372036854775807 := by
  obtain ⟨A, c, h1, h2, h3⟩ := h.form
  rw [List.length_map] at h1 h2
  exact ⟨A, c, h1, h2, h3⟩
theorem bel_box (W : World) (o : Obj) : Below W.heap.size W (W.alloc o) := (Below.refl W.heap.size W).alloc (Nat.le_refl _) o
theorem bel_on {W w w' : World} (h : Below W.heap.size W w) (hb : Below w.heap.size w w') : Below W.heap.size W w' := h.trans (hb.mono h.size)
section
variable {W : World} {t1 t2 t3 t4 : TypeId} {c1 c2 c3 c4 : Array Value}
theorem boxes1 : Below W.heap.size W (W.alloc (.cells c1 t1)) ∧ Bx t1 (W.alloc (.cells c1 t1)) W.heap.size c1 := ⟨bel_box _ _, .newAt rfl⟩
theorem boxes2 : Below W.heap.size W ((W.alloc (.cells c1 t1)).alloc (.cells c2 t2)) ∧ Bx t1 ((W.alloc (.cells c1 t1)).alloc (.cells c2 t2)) W.heap.size c1 ∧ Bx t2 ((W.alloc (.cells c1 t1)).alloc (.cells c2 t2)) (W.heap.size + 1) c2 :=
  ⟨bel_on (bel_box _ _) (bel_box _ _), boxes1.2.alloc _, .newAt (by simp)⟩
theorem boxes3 : Below W.heap.size W (((W.alloc (.cells c1 t1)).alloc (.cells c2 t2)).alloc (.cells c3 t3)) ∧ Bx t1 (((W.alloc (.cells c1 t1)).alloc (.cells c2 t2)).alloc (.cells c3 t3)) W.heap.size c1 ∧
    Bx t2 (((W.alloc (.cells c1 t1)).alloc (.cells c2 t2)).alloc (.cells c3 t3)) (W.heap.size + 1) c2 ∧ Bx t3 (((W.alloc (.cells c1 t1)).alloc (.cells c2 t2)).alloc (.cells c3 t3)) (W.heap.size + 1 + 1) c3 :=
  ⟨bel_on boxes2.1 (bel_box _ _), boxes2.2.1.alloc _, boxes2.2.2.alloc _, .newAt (by simp)⟩
theorem boxes4 : Below W.heap.size W ((((W.alloc (.cells c1 t1)).alloc (.cells c2 t2)).alloc (.cells c3 t3)).alloc (.cells c4 t4)) ∧ Bx t1 ((((W.alloc (.cells c1 t1)).alloc (.cells c2 t2)).alloc (.cells c3 t3)).alloc (.cells c4 t4)) W.heap.size c1 ∧
    Bx t2 ((((W.alloc (.cells c1 t1)).alloc (.cells c2 t2)).alloc (.cells c3 t3)).alloc (.cells c4 t4)) (W.heap.size + 1) c2 ∧ Bx t3 ((((W.alloc (.cells c1 t1)).alloc (.cells c2 t2)).alloc (.cells c3 t3)).alloc (.cells c4 t4)) (W.heap.size + 1 + 1) c3 ∧
    Bx t4 ((((W.alloc (.cells c1 t1)).alloc (.cells c2 t2)).alloc (.cells c3 t3)).alloc (.cells c4 t4)) (W.heap.size + 1 + 1 + 1) c4 :=
  ⟨bel_on boxes3.1 (bel_box _ _), boxes3.2.1.alloc _, boxes3.2.2.1.alloc _, boxes3.2.2.2.alloc _, .newAt (by simp)⟩
end
theorem bel_to {B : Nat} {W w w' : World} (h : Below B W w) (hB : B ≤ w.heap.size) (hb : Below w.heap.size w w') : Below B W w' := h.trans (hb.mono hB)
end Go.Proofs.YtjoiflokekebkaaDoor
