/- How arguments that are slices of words, acts, numbers and flags are opened. -/
import Derived.Test.YtkgiddpeaebdfaaW9
import Derived.ProofKit
import Derived.Deep.Slices
import Derived.Deep.Strs
namespace Go.Proofs.Ytkgiddpeaebdfaa
open Go.ChangeShapes Go.WideShapes Go.ChangeAt Go.RowKit Go.Deep

section
variable {H : Type} {enc : TypeId × Value → H} {W : World} {base : Nat} {spare : Nat → Bool} {held : Bool}

theorem open_gen {t e size : Nat} {A : Option Addr} {len cap : Nat} {d : DataW H} {p : List MemPlace} (ht : Try.prog.underlying t = some (.slice e)) (hC : Try.prog.cellsOf e = size) (hs : 0 < size)
    (h : DataW.Trod enc Try.prog W base spare held t (.slice A len cap) d p) :
    len ≤ maxLen ∧ (0 < len → ∃ b off, A = some ⟨b, off, none⟩ ∧ b < W.heap.size ∧
      ∀ i, i < len → ∃ cs n x, cs.length = size ∧ (∀ j, j < size → W.cell? ⟨b, off + i * size + j, none⟩ = cs[j]?) ∧ DataW.trod enc Try.prog W base spare held n e cs = some x) := by
  obtain ⟨fuel, hf⟩ := h
  rcases open_slice ht hf with ⟨hcs, _⟩ | ⟨a, l, c, m, n, D, Pl, hcs, _, hl, hm, hmm, _, hi⟩
  · simp [Value.cells] at hcs
    obtain ⟨rfl, rfl, rfl⟩ := hcs
    exact ⟨by simp, fun h => absurd h (by omega)⟩
  · simp [Value.cells] at hcs
    obtain ⟨rfl, rfl, rfl⟩ := hcs
    have hle : len ≤ m := by rw [hmm]; split <;> omega
    refine ⟨by omega, fun h0 => ?_⟩
    have key : ∀ i, i < len → ∃ cs x, cs.length = size ∧ (∀ j, j < size → W.cell? ((a.add (i * size)).add j) = cs[j]?) ∧ DataW.trod enc Try.prog W base spare held n e cs = some x := by
      intro i hil
      obtain ⟨cs, hc, ht⟩ := hi i (by omega)
      rw [hC] at hc
      obtain ⟨_, h1, h2⟩ := World.cells?_some hc
      exact ⟨cs, _, h1, h2, ht⟩
    obtain ⟨cs0, x0, l0, g0, _⟩ := key 0 h0
    have hcell : W.cell? a = cs0[0]? := by simpa [Addr.add] using g0 0 hs
    rw [List.getElem?_eq_getElem (by omega)] at hcell
    have hspot : a.spot = none := World.cell?_spot hcell
    obtain ⟨b, off, spot⟩ := a
    simp only at hspot
    subst hspot
    refine ⟨b, off, rfl, World.block_lt_of_cell? W _ hcell, fun i hil => ?_⟩
    obtain ⟨cs, x, h1, h2, h3⟩ := key i hil
    refine ⟨cs, n, x, h1, fun j hj => ?_, h3⟩
    have := h2 j hj
    have e : ((⟨b, off, none⟩ : Addr).add (i * size)).add j = ⟨b, off + i * size + j, none⟩ := by
      unfold Addr.add
      split <;> split <;> simp_all
    rw [e] at this
    exact this

def WdOk (w : Wd) : Prop := (Lit.int .i64 w.a).wf = true ∧ (Lit.int .i64 w.n).wf = true

theorem read_word {n : Nat} {cs : List Value} {x : DataW H × List MemPlace} (h : DataW.trod enc Try.prog W base spare held n 23 cs = some x) :
    ∃ w : Wd, cs = [.bool w.p, .int .i64 w.a, .int .i64 w.n] ∧ WdOk w := by
  obtain ⟨y0, y1, y2, m, _, hl, h0, h1, h2⟩ := trod_struct3 Try.underlying23 h
  have hc : Try.prog.cellsOf 23 = 3 := by kernel_rfl
  rw [hc] at hl
  match cs, hl with
  | [a, b, c], _ =>
    have c4 : Try.prog.cellsOf 4 = 1 := by kernel_rfl
    have c3 : Try.prog.cellsOf 3 = 1 := by kernel_rfl
    simp [c4] at h0
    simp [c3] at h1 h2
    obtain ⟨u, e0, _⟩ := DataW.trod_bool Try.underlying4 h0
    obtain ⟨v, e1, _, w1⟩ := DataW.trod_int Try.underlying3 h1
    obtain ⟨z, e2, _, w2⟩ := DataW.trod_int Try.underlying3 h2
    simp only [List.cons.injEq, and_true] at e0 e1 e2
    subst e0 e1 e2
    exact ⟨⟨u, v, z⟩, rfl, w1, w2⟩

/-- A slice of words that came in. -/
def InW (W : World) (A : Option Addr) (l : List Wd) : Prop :=
  0 < l.length → ∃ b off, A = some ⟨b, off, none⟩ ∧ b < W.heap.size ∧ ∀ i x, l[i]? = some x → W.cell? ⟨b, off + i * 3, none⟩ = some (.bool x.p) ∧ W.cell? ⟨b, off + i * 3 + 1, none⟩ = some (.int .i64 x.a) ∧ W.cell? ⟨b, off + i * 3 + 2, none⟩ = some (.int .i64 x.n)

theorem choose_list {α : Type} {n : Nat} {P : Nat → α → Prop} (h : ∀ i, i < n → ∃ x, P i x) : ∃ l : List α, l.length = n ∧ ∀ i x, l[i]? = some x → P i x := by
  induction n with
  | zero => exact ⟨[], rfl, fun i x hx => by simp at hx⟩
  | succ n ih =>
    obtain ⟨l, hl, hp⟩ := ih (fun i hi => h i (by omega))
    obtain ⟨y, hy⟩ := h n (by omega)
    refine ⟨l ++ [y], by simp [hl], fun i x hx => ?_⟩
    by_cases e : i < n
    · rw [List.getElem?_append_left (by omega)] at hx
      exact hp i x hx
    · have : i = n := by
        have := (List.getElem?_eq_some_iff.1 hx).1
        simp at this
        omega
      subst this
      rw [List.getElem?_append_right (by omega), hl] at hx
      simp at hx
      exact hx ▸ hy

theorem open_W {A : Option Addr} {len cap : Nat} {d : DataW H} {p : List MemPlace} (h : DataW.Trod enc Try.prog W base spare held 29 (.slice A len cap) d p) :
    ∃ l : List Wd, l.length = len ∧ len ≤ maxLen ∧ InW W A l := by
  obtain ⟨hm, hr⟩ := open_gen Try.underlying29 (by kernel_rfl : Try.prog.cellsOf 23 = 3) (by decide) h
  by_cases h0 : len = 0
  · exact ⟨[], by simp [h0], hm, fun h => by simp at h⟩
  · obtain ⟨b, off, hA, hb, hc⟩ := hr (by omega)
    have : ∀ i, i < len → ∃ x : Wd, W.cell? ⟨b, off + i * 3, none⟩ = some (.bool x.p) ∧ W.cell? ⟨b, off + i * 3 + 1, none⟩ = some (.int .i64 x.a) ∧ W.cell? ⟨b, off + i * 3 + 2, none⟩ = some (.int .i64 x.n) := by
      intro i hi
      obtain ⟨cs, n, x, _, hcell, ht⟩ := hc i hi
      obtain ⟨w, rfl, _⟩ := read_word ht
      exact ⟨w, by simpa using hcell 0 (by decide), by simpa using hcell 1 (by decide), by simpa using hcell 2 (by decide)⟩
    obtain ⟨l, hl, hp⟩ := choose_list this
    exact ⟨l, hl, hm, fun _ => ⟨b, off, hA, hb, hp⟩⟩

/-- A slice of flags that came in. -/
def InB (W : World) (A : Option Addr) (l : List Bool) : Prop :=
  0 < l.length → ∃ b off, A = some ⟨b, off, none⟩ ∧ b < W.heap.size ∧ ∀ i x, l[i]? = some x → W.cell? ⟨b, off + i, none⟩ = some (.bool x)

theorem open_B {A : Option Addr} {len cap : Nat} {d : DataW H} {p : List MemPlace} (h : DataW.Trod enc Try.prog W base spare held 43 (.slice A len cap) d p) :
    ∃ l : List Bool, l.length = len ∧ len ≤ maxLen ∧ InB W A l := by
  obtain ⟨hm, hr⟩ := open_gen Try.underlying43 (by kernel_rfl : Try.prog.cellsOf 4 = 1) (by decide) h
  by_cases h0 : len = 0
  · exact ⟨[], by simp [h0], hm, fun h => by simp at h⟩
  · obtain ⟨b, off, hA, hb, hc⟩ := hr (by omega)
    have : ∀ i, i < len → ∃ x : Bool, W.cell? ⟨b, off + i, none⟩ = some (.bool x) := by
      intro i hi
      obtain ⟨cs, n, x, _, hcell, ht⟩ := hc i hi
      obtain ⟨w, rfl, _⟩ := DataW.trod_bool Try.underlying4 ht
      exact ⟨w, by simpa using hcell 0 (by decide)⟩
    obtain ⟨l, hl, hp⟩ := choose_list this
    exact ⟨l, hl, hm, fun _ => ⟨b, off, hA, hb, hp⟩⟩

/-- A slice of numbers that came in. -/
def InI (W : World) (A : Option Addr) (l : List Int) : Prop :=
  0 < l.length → ∃ b off, A = some ⟨b, off, none⟩ ∧ b < W.heap.size ∧ ∀ i x, l[i]? = some x → W.cell? ⟨b, off + i, none⟩ = some (.int .i64 x)

theorem open_I {A : Option Addr} {len cap : Nat} {d : DataW H} {p : List MemPlace} (h : DataW.Trod enc Try.prog W base spare held 38 (.slice A len cap) d p) :
    ∃ l : List Int, l.length = len ∧ len ≤ maxLen ∧ InI W A l := by
  obtain ⟨hm, hr⟩ := open_gen Try.underlying38 (by kernel_rfl : Try.prog.cellsOf 3 = 1) (by decide) h
  by_cases h0 : len = 0
  · exact ⟨[], by simp [h0], hm, fun h => by simp at h⟩
  · obtain ⟨b, off, hA, hb, hc⟩ := hr (by omega)
    have : ∀ i, i < len → ∃ x : Int, W.cell? ⟨b, off + i, none⟩ = some (.int .i64 x) := by
      intro i hi
      obtain ⟨cs, n, x, _, hcell, ht⟩ := hc i hi
      obtain ⟨w, rfl, _⟩ := DataW.trod_int Try.underlying3 ht
      exact ⟨w, by simpa using hcell 0 (by decide)⟩
    obtain ⟨l, hl, hp⟩ := choose_list this
    exact ⟨l, hl, hm, fun _ => ⟨b, off, hA, hb, hp⟩⟩

/-- An act. -/
structure Ac where
  k : Int
  n : Int
  p : Wd
  q : Wd

def AcOk (x : Ac) : Prop := (Lit.int .i64 x.k).wf = true ∧ (Lit.int .i64 x.n).wf = true ∧ WdOk x.p ∧ WdOk x.q
def Ac.cells (x : Ac) : List Value := [.int .i64 x.k, .int .i64 x.n, .bool x.p.p, .int .i64 x.p.a, .int .i64 x.p.n, .bool x.q.p, .int .i64 x.q.a, .int .i64 x.q.n]

theorem read_act {n : Nat} {cs : List Value} {x : DataW H × List MemPlace} (h : DataW.trod enc Try.prog W base spare held n 51 cs = some x) :
    ∃ w : Ac, cs = w.cells ∧ AcOk w := by
  obtain ⟨xs, m, _, _, hl, hlen, hf⟩ := DataW.trod_struct Try.underlying51 h
  have hc : Try.prog.cellsOf 51 = 8 := by kernel_rfl
  have c3 : Try.prog.cellsOf 3 = 1 := by kernel_rfl
  have c23 : Try.prog.cellsOf 23 = 3 := by kernel_rfl
  rw [hc] at hl
  match cs, hl with
  | [a0, a1, a2, a3, a4, a5, a6, a7], _ =>
    match xs, hlen with
    | [y0, y1, y2, y3], _ =>
      have h0 := hf 0 _ rfl
      have h1 := hf 1 _ rfl
      have h2 := hf 2 _ rfl
      have h3 := hf 3 _ rfl
      simp [c3] at h0 h1
      simp [c23] at h2 h3
      obtain ⟨k, e0, _, w0⟩ := DataW.trod_int Try.underlying3 h0
      obtain ⟨n, e1, _, w1⟩ := DataW.trod_int Try.underlying3 h1
      obtain ⟨p, e2, w2⟩ := read_word h2
      obtain ⟨q, e3, w3⟩ := read_word h3
      simp only [List.cons.injEq, and_true] at e0 e1 e2 e3
      obtain ⟨rfl, rfl, rfl⟩ := e2
      obtain ⟨rfl, rfl, rfl⟩ := e3
      subst e0 e1
      exact ⟨⟨k, n, p, q⟩, rfl, w0, w1, w2, w3⟩

/-- A slice of acts that came in. -/
def InA (W : World) (A : Option Addr) (l : List Ac) : Prop :=
  0 < l.length → ∃ b off, A = some ⟨b, off, none⟩ ∧ b < W.heap.size ∧ ∀ i x, l[i]? = some x → AcOk x ∧ ∀ j, j < 8 → W.cell? ⟨b, off + i * 8 + j, none⟩ = x.cells[j]?

theorem open_A {A : Option Addr} {len cap : Nat} {d : DataW H} {p : List MemPlace} (h : DataW.Trod enc Try.prog W base spare held 46 (.slice A len cap) d p) :
    ∃ l : List Ac, l.length = len ∧ len ≤ maxLen ∧ InA W A l := by
  obtain ⟨hm, hr⟩ := open_gen Try.underlying46 (by kernel_rfl : Try.prog.cellsOf 51 = 8) (by decide) h
  by_cases h0 : len = 0
  · exact ⟨[], by simp [h0], hm, fun h => by simp at h⟩
  · obtain ⟨b, off, hA, hb, hc⟩ := hr (by omega)
    have : ∀ i, i < len → ∃ x : Ac, AcOk x ∧ ∀ j, j < 8 → W.cell? ⟨b, off + i * 8 + j, none⟩ = x.cells[j]? := by
      intro i hi
      obtain ⟨cs, n, x, _, hcell, ht⟩ := hc i hi
      obtain ⟨w, rfl, hw⟩ := read_act ht
      exact ⟨w, hw, hcell⟩
    obtain ⟨l, hl, hp⟩ := choose_list this
    exact ⟨l, hl, hm, fun _ => ⟨b, off, hA, hb, hp⟩⟩
end
end Go.Proofs.Ytkgiddpeaebdfaa
