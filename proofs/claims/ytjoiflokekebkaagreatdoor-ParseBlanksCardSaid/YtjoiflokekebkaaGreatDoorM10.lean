/- Texts of this claim in one file: K1, Ps, Kr, Q1, Ka. -/
import Derived.Test.YtjoiflokekebkaaGreatDoorM2
import Derived.Deep.MidRow
import Derived.Deep.WholeRow
import Derived.Deep.CutBlock
import Derived.Deep.CutRange
import Derived.Maps.AppendAt
import Derived.Laws.OwnMore
set_option linter.all false
section
/- Plain: declared types: what they hold. -/
namespace Go.Proofs.YtjoiflokekebkaaGreatDoor

def nmIs (a b : ByteArray) : Bool := a.toList == b.toList
theorem nmIs_iff {a b : ByteArray} : nmIs a b = true ↔ a = b := by
  unfold nmIs
  rw [beq_iff_eq, ByteArray.toList_eq, ByteArray.toList_eq]
  exact ⟨fun h => bytes_eq h, fun h => by rw [h]⟩
/-- The place of the first that is so; below 0: there is none. -/
def idxN {α : Type} (p : α → Bool) : List α → Nat → Int
  | [], _ => -1
  | x :: r, i => if p x = true then (i : Int) else idxN p r (i + 1)
def idx {α : Type} (p : α → Bool) (l : List α) : Int := idxN p l 0
def structOf (s : Src) (n : ByteArray) : Int := idx (fun x : Str => nmIs x.n n) s.ss
def enumOf (s : Src) (n : ByteArray) : Int := idx (fun x : Enm => nmIs x.n n) s.es
def fnOf (s : Src) (n : ByteArray) : Int := idx (fun x : Fnc => nmIs x.n n) s.fs
mutual
/-- A type whose names are known. -/
def resolve (s : Src) : Ty → Except Int Ty
  | .mk k n l =>
    if k = 1 then .ok (.mk k n l)
    else if k = 2 then (if structOf s n < 0 then (if enumOf s n < 0 then .error 71 else .ok (.mk 3 n l)) else .ok (.mk k n l))
    else if k = 3 then (if enumOf s n < 0 then .error 71 else .ok (.mk k n l))
    else if k = 7 then (if fnOf s n < 0 then .error 71 else .ok (.mk k n l))
    else if k = 4 ∨ k = 5 ∨ k = 6 then (if l.length = 1 then (match resolveL s l with
      | .error e => .error e
      | .ok us => .ok (.mk k n us)) else .error 80)
    else .error 80
def resolveL (s : Src) : List Ty → Except Int (List Ty)
  | [] => .ok []
  | t :: r => match resolve s t with
    | .error e => .error e
    | .ok u => match resolveL s r with
      | .error e => .error e
      | .ok us => .ok (u :: us)
end
mutual
/-- Is there a reference in it? -/
def holds : Ty → Bool
  | .mk k _ l => decide (k = 5) || decide (k = 6) || holdsL l
def holdsL : List Ty → Bool
  | [] => false
  | t :: r => holds t || holdsL r
end
def Ty.k : Ty → Int
  | .mk k _ _ => k
def Ty.n : Ty → ByteArray
  | .mk _ n _ => n
def Ty.l : Ty → List Ty
  | .mk _ _ l => l
def copies (t : Ty) : Bool := decide (t.k = 0) || decide (t.k = 1) || decide (t.k = 5)
/-- An item: is it an enum, and which one. -/
abbrev It := Bool × Nat
def itemsOf (s : Src) : List It := (List.range s.ss.length).map (fun i => (false, i)) ++ (List.range s.es.length).map (fun i => (true, i))
def itemOf (s : Src) (t : Ty) : Option It :=
  if t.k = 2 ∧ 0 ≤ structOf s t.n then some (false, (structOf s t.n).toNat)
  else if (t.k = 2 ∨ t.k = 3) ∧ 0 ≤ enumOf s t.n then some (true, (enumOf s t.n).toNat)
  else none
def strAt (s : Src) (i : Nat) : Str := s.ss.getD i ⟨noB, false, [], 0⟩
def enmAt (s : Src) (i : Nat) : Enm := s.es.getD i ⟨noB, [], 0⟩
def partsOf (s : Src) (x : It) : List Ty := if x.1 then (enmAt s x.2).vs.map (·.t) else (strAt s x.2).fs.map (·.t)
def itName (s : Src) (x : It) : ByteArray := if x.1 then (enmAt s x.2).n else (strAt s x.2).n
def itAt (s : Src) (x : It) : Int := if x.1 then (enmAt s x.2).at_ else (strAt s x.2).at_
/-- What a type leads to: itself, and the parts of what it is, and so on. -/
inductive In (s : Src) : Ty → Ty → Prop
  | refl (t : Ty) : In s t t
  | step {t u v : Ty} {x : It} : itemOf s t = some x → u ∈ partsOf s x → In s u v → In s t v
def isDrop (s : Src) (t : Ty) : Bool := decide (t.k = 4) || decide (t.k = 7) || (match itemOf s t with
  | some (false, i) => (strAt s i).drop
  | _ => false)
/-- Sizes, in so many rounds. -/
def most : Int := 1024
def sizeT (s : Src) (known : It → Int) (t : Ty) : Int :=
  if t.k = 0 then 0
  else if t.k = 2 ∨ t.k = 3 then (match itemOf s t with
    | some x => known x
    | none => 0)
  else 1
def sumCap (n : Int) : List Int → Int
  | [] => n
  | k :: r => sumCap (min (n + k) (most + 1)) r
def maxOf (n : Int) : List Int → Int
  | [] => n
  | k :: r => maxOf (max n k) r
def sizeI (s : Src) : Nat → It → Int
  | 0, _ => 0
  | n + 1, x => if x.1 then min (maxOf 0 ((partsOf s x).map (sizeT s (sizeI s n))) + 1) (most + 1) else sumCap 0 ((partsOf s x).map (sizeT s (sizeI s n)))
def countOf (s : Src) : Nat := s.ss.length + s.es.length
def sizeOf_ (s : Src) (t : Ty) : Int := sizeT s (sizeI s (countOf s)) t
def offsetOf (s : Src) (t : Ty) (field : Int) : Int :=
  if t.k = 2 ∧ 0 ≤ structOf s t.n ∧ 0 ≤ field ∧ field < (strAt s (structOf s t.n).toNat).fs.length then
    sumCap 0 (((strAt s (structOf s t.n).toNat).fs.take field.toNat).map (fun f => sizeOf_ s f.t))
  else 0

/-! ### Checking declarations -/
abbrev Err := Option (Int × Int)
def twiceN : List ByteArray → List ByteArray → Bool
  | _, [] => false
  | met, n :: r => if met.any (fun m => nmIs m n) then true else twiceN (n :: met) r
def twice (l : List Fld) : Bool := twiceN [] (l.map (·.n))
def fieldErr (s : Src) (t : Ty) : Int := match resolve s t with
  | .error e => e
  | .ok _ => if holds t then 73 else 0
def firstErr (s : Src) : List Fld → Int
  | [] => 0
  | f :: r => if fieldErr s f.t = 0 then firstErr s r else fieldErr s f.t
def fieldsErr (s : Src) (l : List Fld) : Int := if l.length > 200 then 81 else firstErr s l
/-- The first name that was met is told by its place. -/
def dupAt : List ByteArray → List (ByteArray × Int) → Err
  | _, [] => none
  | met, (n, a) :: r => if met.any (fun m => nmIs m n) then some (70, a) else dupAt (n :: met) r
def firstOf {α : Type} (f : α → Err) : List α → Err
  | [] => none
  | x :: r => match f x with
    | some e => some e
    | none => firstOf f r
def heldOf (s : Src) (x : It) : List Fld := if x.1 then (enmAt s x.2).vs.map (fun v => if v.t.k = 0 then ⟨v.n, .mk 1 noB []⟩ else v) else (strAt s x.2).fs
def namesErr (s : Src) : Err := match dupAt [] ((itemsOf s).map fun x => (itName s x, itAt s x)) with
  | some e => some e
  | none => dupAt [] (s.fs.map fun f => (f.n, f.at_))
def heldErr (s : Src) (x : It) : Err :=
  if twice (heldOf s x) then some (70, itAt s x)
  else if x.1 && (heldOf s x).isEmpty then some (83, itAt s x)
  else if fieldsErr s (heldOf s x) = 0 then none else some (fieldsErr s (heldOf s x), itAt s x)
def paramsErr (s : Src) (f : Fnc) : Err := if twice f.ps then some (70, f.at_) else if fieldsErr s f.ps = 0 then none else some (fieldsErr s f.ps, f.at_)
def holdsErr (s : Src) : Err := match firstOf (heldErr s) (itemsOf s) with
  | some e => some e
  | none => firstOf (paramsErr s) s.fs
end Go.Proofs.YtjoiflokekebkaaGreatDoor
end

section
/- Trees in memory that are only read. -/
namespace Go.Proofs.YtjoiflokekebkaaGreatDoor
open Go.RowKit

/-- The cell u leads to d, by cells that are there. -/
inductive See (W : World) : Value → D → Prop
  | v (x : Value) : See W x (.v x)
  | row {e : TypeId} {sz b o : Nat} {l : List (List D)} {A : Option Addr} {c : Nat} {xs : Nat → Nat → Value} (hc : l.length ≤ c) (hm : c ≤ maxLen) (hN : A = none → c = 0) (hA : 0 < l.length → A = some ⟨b, o, none⟩)
      (hl : ∀ (i : Nat) (ds : List D), l[i]? = some ds → ds.length = sz)
      (hx : ∀ (i : Nat) (ds : List D) (j : Nat) (d : D), l[i]? = some ds → ds[j]? = some d → W.cell? ⟨b, o + i * sz + j, none⟩ = some (xs i j))
      (hr : ∀ (i : Nat) (ds : List D) (j : Nat) (d : D), l[i]? = some ds → ds[j]? = some d → See W (xs i j) d) : See W (.slice A l.length c) (.row e sz l)
def Sees (W : World) : List Value → List D → Prop
  | [], [] => True
  | u :: us, d :: ds => See W u d ∧ Sees W us ds
  | _, _ => False
section
variable {W W' : World} {u : Value} {d : D} {us us' : List Value} {ds ds' : List D} {e : TypeId} {sz : Nat} {l : List (List D)}
theorem See.bel (h : See W u d) (hb : Below W.heap.size W W') : See W' u d := by
  induction h with
  | v x => exact .v x
  | row hc hm hN hA hl hx _ ih => exact .row hc hm hN hA hl (fun i ds j d h1 h2 => (World.cell?_of_block (hb.block _ (World.block_lt_of_cell? W _ (hx i ds j d h1 h2)))).trans (hx i ds j d h1 h2)) ih
theorem Sees.below : ∀ {us : List Value} {ds : List D}, Sees W us ds → Below W.heap.size W W' → Sees W' us ds
  | [], [], _, _ => trivial
  | _ :: _, _ :: _, h, hb => ⟨h.1.bel hb, Sees.below h.2 hb⟩
  | [], _ :: _, h, _ => h.elim
  | _ :: _, [], h, _ => h.elim
theorem See.v_eq {x y : Value} (h : See W x (.v y)) : x = y := by
  generalize hd : D.v y = dd at h
  cases h with
  | v x => injection hd with hd; exact hd.symm
  | row => cases hd
theorem See.form (h : See W u (.row e sz l)) : ∃ (A : Option Addr) (c : Nat), u = .slice A l.length c ∧ l.length ≤ c ∧ c ≤ 9223372036854775807 := by
  cases h with
  | row hc hm => exact ⟨_, _, rfl, hc, hm⟩
/-- An element's cells. -/
theorem See.elt {A : Option Addr} {n c i : Nat} (h : See W (.slice A n c) (.row e sz l)) (hi : l[i]? = some ds) :
    ∃ b o, A = some ⟨b, o, none⟩ ∧ ∀ (j : Nat) (d : D), ds[j]? = some d → ∃ x, W.cell? ⟨b, o + i * sz + j, none⟩ = some x ∧ See W x d := by
  generalize hu : Value.slice A n c = u at h
  cases h with
  | @row _ _ b o _ A' c' xs hc hm hN hA hl hx hr =>
    injection hu with h1 h2 h3
    have hp : 0 < l.length := by have := (List.getElem?_eq_some_iff.1 hi).1; omega
    have hA' := hA hp
    subst h1
    exact ⟨b, o, hA', fun j d hd => ⟨_, hx i ds j d hi hd, hr i ds j d hi hd⟩⟩
theorem See.none_nil {A : Option Addr} {n c : Nat} (h : See W (.slice A n c) (.row e sz l)) : A = none → c = 0 := by
  generalize hu : Value.slice A n c = u at h
  cases h with
  | row hc hm hN hA hl hx hr =>
    injection hu with h1 h2 h3
    subst h1 h3
    exact hN
theorem See.nil (W : World) (e : TypeId) (sz : Nat) : See W (.slice none 0 0) (.row e sz []) :=
  See.row (l := []) (b := 0) (o := 0) (xs := fun _ _ => .nilIface) (Nat.zero_le _) (Nat.zero_le _) (fun _ => rfl) (fun h => by simp at h) (fun i ds h => by simp at h) (fun i ds j d h => by simp at h) (fun i ds j d h => by simp at h)
theorem See.of_rd {ok : Nat → Prop} (h : Rd W ok u d) : See W u d := by
  induction h with
  | v x => exact .v x
  | @row ok e sz u l xs ho hk hl hr ih =>
    obtain ⟨hxl, ⟨rfl, h0⟩ | ⟨g, cap, cur, rfl, hb, hh, hc, hm, hs, ht⟩⟩ := ho
    · obtain rfl : l = [] := List.length_eq_zero_iff.1 h0
      exact .nil _ _ _
    · refine .row (b := g) (o := 0) (xs := fun i j => xs.getD (i * sz + j) .nilIface) hc hm (fun h => by cases h) (fun _ => rfl) hl (fun i ds j d h1 h2 => ?_) ih
      have hj : j < sz := by rw [← hl i ds h1]; exact (List.getElem?_eq_some_iff.1 h2).1
      have hi : i < l.length := (List.getElem?_eq_some_iff.1 h1).1
      have hlt : i * sz + j < xs.length := by
        rw [hxl]
        calc i * sz + j < i * sz + sz := by omega
          _ = (i + 1) * sz := by rw [Nat.add_mul, Nat.one_mul]
          _ ≤ l.length * sz := Nat.mul_le_mul_right _ (by omega)
      rw [Nat.zero_add, blk_cell hh, ← Array.getElem?_toList, List.getD_eq_getElem?_getD, List.getElem?_eq_getElem hlt]
      have h3 : xs[i * sz + j]? = some xs[i * sz + j] := List.getElem?_eq_getElem hlt
      have h4 : cur.toList[i * sz + j]? = some xs[i * sz + j] := by
        rw [← h3, ← ht, List.getElem?_take, if_pos (by rw [← hxl]; exact hlt)]
      exact h4
theorem Sees.of_rds {ok : Nat → Prop} : ∀ {us : List Value} {ds : List D}, Rds W ok us ds → Sees W us ds
  | [], [], _ => trivial
  | _ :: _, _ :: _, h => ⟨See.of_rd h.1, Sees.of_rds h.2⟩
  | [], _ :: _, h => h.elim
  | _ :: _, [], h => h.elim
theorem Sees.length : ∀ {us : List Value} {ds : List D}, Sees W us ds → us.length = ds.length
  | [], [], _ => rfl
  | _ :: _, _ :: _, h => by simp [Sees.length h.2]
  | [], _ :: _, h => h.elim
  | _ :: _, [], h => h.elim
end
end Go.Proofs.YtjoiflokekebkaaGreatDoor
end

section
/- Reading trees in memory: elements of rows. -/
namespace Go.Proofs.YtjoiflokekebkaaGreatDoor
open Go.RowKit

section
variable {W W' : World} {A : Option Addr} {n c i : Nat} {e : TypeId} {sz : Nat}
theorem See.elts {l : List (List D)} {ds : List D} (h : See W (.slice A n c) (.row e sz l)) (hi : l[i]? = some ds) :
    ∃ b o cs, A = some ⟨b, o, none⟩ ∧ Sees W cs ds ∧ ∀ (j : Nat) (x : Value), cs[j]? = some x → W.cell? ⟨b, o + i * sz + j, none⟩ = some x := by
  obtain ⟨b, o, hA, hx⟩ := h.elt hi
  have key : ∀ (k : Nat) (es : List D), (∀ (j : Nat) (d : D), es[j]? = some d → ∃ x, W.cell? ⟨b, o + i * sz + (k + j), none⟩ = some x ∧ See W x d) →
      ∃ cs, Sees W cs es ∧ ∀ (j : Nat) (x : Value), cs[j]? = some x → W.cell? ⟨b, o + i * sz + (k + j), none⟩ = some x := by
    intro k es
    induction es generalizing k with
    | nil => exact fun _ => ⟨[], trivial, fun j x h => by simp at h⟩
    | cons d es ih =>
      intro hj
      obtain ⟨x, h1, h2⟩ := hj 0 d rfl
      obtain ⟨cs, h3, h4⟩ := ih (k + 1) (fun j d hd => by
        obtain ⟨y, h5, h6⟩ := hj (j + 1) d (by simpa using hd)
        exact ⟨y, by rw [← h5]; congr 2; omega, h6⟩)
      refine ⟨x :: cs, ⟨h2, h3⟩, fun j y hy => ?_⟩
      cases j with
      | zero => simp at hy; subst hy; exact h1
      | succ j => simp at hy; rw [← h4 j y hy]; congr 2; omega
  obtain ⟨cs, h1, h2⟩ := key 0 ds (fun j d hd => by rw [Nat.zero_add]; exact hx j d hd)
  exact ⟨b, o, cs, hA, h1, fun j x h => by have := h2 j x h; rwa [Nat.zero_add] at this⟩
theorem See.same {u : Value} {d d' : D} (h : See W u d) (e : d = d') : See W u d' := e ▸ h
end
theorem Ty.ds_map (l : List Ty) : Ty.ds l = l.map Ty.d := by
  induction l with
  | nil => simp [Ty.ds]
  | cons t l ih => simp [Ty.ds, ih]
theorem Stm.ds_map (l : List Stm) : Stm.ds l = l.map Stm.d := by
  induction l with
  | nil => simp [Stm.ds]
  | cons t l ih => simp [Stm.ds, ih]
theorem Arm.ds_map (l : List Arm) : Arm.ds l = l.map Arm.d := by
  induction l with
  | nil => simp [Arm.ds]
  | cons t l ih => simp [Arm.ds, ih]
section
variable {W : World} {cs : List Value}
theorem Ty.open {t : Ty} (h : Sees W cs t.d) : ∃ u, cs = [.int .i64 t.k, .string t.n, u] ∧ See W u (.row 37 3 (t.l.map Ty.d)) := by
  obtain ⟨k, n, l⟩ := t
  simp only [Ty.d, Ty.ds_map] at h
  match cs, h with
  | [a, b, u], h =>
    obtain ⟨h1, h2, h3, _⟩ := h
    obtain rfl := h1.v_eq
    obtain rfl := h2.v_eq
    exact ⟨u, rfl, h3⟩
theorem Fld.open {f : Fld} (h : Sees W cs f.d) : ∃ u, cs = [.string f.n, .int .i64 f.t.k, .string f.t.n, u] ∧ See W u (.row 37 3 (f.t.l.map Ty.d)) := by
  match cs, h with
  | a :: r, h =>
    obtain ⟨h1, h2⟩ := h
    obtain rfl := h1.v_eq
    obtain ⟨u, rfl, hu⟩ := Ty.open h2
    exact ⟨u, rfl, hu⟩
theorem Str.open {x : Str} (h : Sees W cs x.d) : ∃ u, cs = [.string x.n, .bool x.drop, u, .int .i64 x.at_] ∧ See W u (.row 79 4 (x.fs.map Fld.d)) := by
  match cs, h with
  | [a, b, u, d], h =>
    obtain ⟨h1, h2, h3, h4, _⟩ := h
    obtain rfl := h1.v_eq
    obtain rfl := h2.v_eq
    obtain rfl := h4.v_eq
    exact ⟨u, rfl, h3⟩
theorem Enm.open {x : Enm} (h : Sees W cs x.d) : ∃ u, cs = [.string x.n, u, .int .i64 x.at_] ∧ See W u (.row 86 4 (x.vs.map Fld.d)) := by
  match cs, h with
  | [a, u, d], h =>
    obtain ⟨h1, h3, h4, _⟩ := h
    obtain rfl := h1.v_eq
    obtain rfl := h4.v_eq
    exact ⟨u, rfl, h3⟩
theorem Fnc.open {x : Fnc} (h : Sees W cs x.d) : ∃ u v, cs = [.string x.n, u, v, .int .i64 x.at_] ∧ See W u (.row 79 4 (x.ps.map Fld.d)) ∧ See W v (.row 60 21 (x.b.map Stm.d)) := by
  simp only [Fnc.d, Stm.ds_map] at h
  match cs, h with
  | [a, u, v, d], h =>
    obtain ⟨h1, h2, h3, h4, _⟩ := h
    obtain rfl := h1.v_eq
    obtain rfl := h4.v_eq
    exact ⟨u, v, rfl, h2, h3⟩
theorem Src.open {s : Src} (h : Sees W cs s.d) : ∃ u v w, cs = [u, v, w] ∧ See W u (.row 75 4 (s.ss.map Str.d)) ∧ See W v (.row 85 3 (s.es.map Enm.d)) ∧ See W w (.row 50 4 (s.fs.map Fnc.d)) := by
  match cs, h with
  | [u, v, w], h =>
    obtain ⟨h1, h2, h3, _⟩ := h
    exact ⟨u, v, w, rfl, h1, h2, h3⟩
end
/-- A row of things of four cells: an element's cells. -/
theorem See.at4 {α : Type} {f : α → List D} {W : World} {A : Option Addr} {n c i : Nat} {e : TypeId} {l : List α} {x : α} (h : See W (.slice A n c) (.row e 4 (l.map f))) (hi : l[i]? = some x) (h4 : (f x).length = 4) :
    ∃ b o x0 x1 x2 x3, A = some ⟨b, o, none⟩ ∧ Sees W [x0, x1, x2, x3] (f x) ∧ W.cell? ⟨b, o + i * 4, none⟩ = some x0 ∧ W.cell? ⟨b, o + i * 4 + 1, none⟩ = some x1 ∧ W.cell? ⟨b, o + i * 4 + 2, none⟩ = some x2 ∧ W.cell? ⟨b, o + i * 4 + 3, none⟩ = some x3 := by
  obtain ⟨b, o, cs, hA, hs, hc⟩ := h.elts (by rw [List.getElem?_map, hi]; rfl)
  have hl := hs.length
  rw [h4] at hl
  match cs, hl with
  | [x0, x1, x2, x3], _ => exact ⟨b, o, x0, x1, x2, x3, hA, hs, hc 0 _ rfl, hc 1 _ rfl, hc 2 _ rfl, hc 3 _ rfl⟩
theorem See.at3 {α : Type} {f : α → List D} {W : World} {A : Option Addr} {n c i : Nat} {e : TypeId} {l : List α} {x : α} (h : See W (.slice A n c) (.row e 3 (l.map f))) (hi : l[i]? = some x) (h4 : (f x).length = 3) :
    ∃ b o x0 x1 x2, A = some ⟨b, o, none⟩ ∧ Sees W [x0, x1, x2] (f x) ∧ W.cell? ⟨b, o + i * 3, none⟩ = some x0 ∧ W.cell? ⟨b, o + i * 3 + 1, none⟩ = some x1 ∧ W.cell? ⟨b, o + i * 3 + 2, none⟩ = some x2 := by
  obtain ⟨b, o, cs, hA, hs, hc⟩ := h.elts (by rw [List.getElem?_map, hi]; rfl)
  have hl := hs.length
  rw [h4] at hl
  match cs, hl with
  | [x0, x1, x2], _ => exact ⟨b, o, x0, x1, x2, hA, hs, hc 0 _ rfl, hc 1 _ rfl, hc 2 _ rfl⟩
theorem Ty.d_len (t : Ty) : t.d.length = 3 := by cases t; simp [Ty.d]
theorem Fld.d_len (f : Fld) : f.d.length = 4 := by simp [Fld.d, Ty.d_len]
theorem Str.d_len (f : Str) : f.d.length = 4 := rfl
theorem Enm.d_len (f : Enm) : f.d.length = 3 := rfl
theorem Fnc.d_len (f : Fnc) : f.d.length = 4 := rfl
/-- A row, its length, and its value. -/
theorem See.formOf {α : Type} {f : α → List D} {W : World} {u : Value} {e : TypeId} {sz : Nat} {l : List α} (h : See W u (.row e sz (l.map f))) : ∃ (A : Option Addr) (c : Nat), u = .slice A l.length c ∧ l.length ≤ c ∧ c ≤ 9223372036854775807 := by
  obtain ⟨A, c, h1, h2, h3⟩ := h.form
  rw [List.length_map] at h1 h2
  exact ⟨A, c, h1, h2, h3⟩
theorem bel_box (W : World) (o : Obj) : Below W.heap.size W (W.alloc o) := (Below.refl W.heap.size W).alloc (Nat.le_refl _) o
theorem bel_on {W w w' : World} (h : Below W.heap.size W w) (hb : Below w.heap.size w w') : Below W.heap.size W w' := h.trans (hb.mono h.size)
section
variable {W : World} {t1 t2 t3 t4 : TypeId} {c1 c2 c3 c4 : Array Value}
theorem boxes1 : Below W.heap.size W (W.alloc (.cells c1 t1)) ∧ Bx t1 (W.alloc (.cells c1 t1)) W.heap.size c1 := ⟨bel_box _ _, .newAt rfl⟩
theorem boxes2 : Below W.heap.size W ((W.alloc (.cells c1 t1)).alloc (.cells c2 t2)) ∧ Bx t1 ((W.alloc (.cells c1 t1)).alloc (.cells c2 t2)) W.heap.size c1 ∧ Bx t2 ((W.alloc (.cells c1 t1)).alloc (.cells c2 t2)) (W.heap.size + 1) c2 :=
  ⟨bel_on (bel_box _ _) (bel_box _ _), boxes1.2.alloc _, .newAt (by simp)⟩
theorem boxes3 : Below W.heap.size W (((W.alloc (.cells c1 t1)).alloc (.cells c2 t2)).alloc (.cells c3 t3)) ∧ Bx t1 (((W.alloc (.cells c1 t1)).alloc (.cells c2 t2)).alloc (.cells c3 t3)) W.heap.size c1 ∧
    Bx t2 (((W.alloc (.cells c1 t1)).alloc (.cells c2 t2)).alloc (.cells c3 t3)) (W.heap.size + 1) c2 ∧ Bx t3 (((W.alloc (.cells c1 t1)).alloc (.cells c2 t2)).alloc (.cells c3 t3)) (W.heap.size + 1 + 1) c3 :=
  ⟨bel_on boxes2.1 (bel_box _ _), boxes2.2.1.alloc _, boxes2.2.2.alloc _, .newAt (by simp)⟩
theorem boxes4 : Below W.heap.size W ((((W.alloc (.cells c1 t1)).alloc (.cells c2 t2)).alloc (.cells c3 t3)).alloc (.cells c4 t4)) ∧ Bx t1 ((((W.alloc (.cells c1 t1)).alloc (.cells c2 t2)).alloc (.cells c3 t3)).alloc (.cells c4 t4)) W.heap.size c1 ∧
    Bx t2 ((((W.alloc (.cells c1 t1)).alloc (.cells c2 t2)).alloc (.cells c3 t3)).alloc (.cells c4 t4)) (W.heap.size + 1) c2 ∧ Bx t3 ((((W.alloc (.cells c1 t1)).alloc (.cells c2 t2)).alloc (.cells c3 t3)).alloc (.cells c4 t4)) (W.heap.size + 1 + 1) c3 ∧
    Bx t4 ((((W.alloc (.cells c1 t1)).alloc (.cells c2 t2)).alloc (.cells c3 t3)).alloc (.cells c4 t4)) (W.heap.size + 1 + 1 + 1) c4 :=
  ⟨bel_on boxes3.1 (bel_box _ _), boxes3.2.1.alloc _, boxes3.2.2.1.alloc _, boxes3.2.2.2.alloc _, .newAt (by simp)⟩
end
theorem bel_to {B : Nat} {W w w' : World} (h : Below B W w) (hB : B ≤ w.heap.size) (hb : Below w.heap.size w w') : Below B W w' := h.trans (hb.mono hB)
end Go.Proofs.YtjoiflokekebkaaGreatDoor
end

section
/- Walks: slices.EqualFunc. -/
namespace Go.Proofs.YtjoiflokekebkaaGreatDoor
open Go.RowKit

def D.one : D → Bool
  | .v x => x.oneCell'
  | .row _ _ _ => true
theorem See.one {W : World} {u : Value} {d : D} (h : See W u d) (hd : d.one = true) : u.oneCell' = true := by
  cases h with
  | v x => exact hd
  | row => rfl
theorem Sees.ones {W : World} : ∀ {us : List Value} {ds : List D}, Sees W us ds → ds.all D.one = true → ∀ v ∈ us, v.oneCell' = true
  | [], _, _, _, v, hv => by cases hv
  | _ :: _, [], h, _, _, _ => h.elim
  | u :: us, d :: ds, h, hd, v, hv => by
    simp only [List.all_cons, Bool.and_eq_true] at hd
    rcases List.mem_cons.1 hv with rfl | hv
    · exact h.1.one hd.1
    · exact Sees.ones h.2 hd.2 v hv
theorem Sees.one {W : World} {us : List Value} {ds : List D} (h : Sees W us ds) (hd : ds.all D.one = true) : us.toArray.all (·.oneCell') = true := all_oneCell_toArray (h.ones hd)
theorem Ty.d_one (t : Ty) : t.d.all D.one = true := by cases t; simp [Ty.d, D.one, Value.oneCell']
theorem Fld.d_one (f : Fld) : f.d.all D.one = true := by simp [Fld.d, D.one, Value.oneCell', Ty.d_one]
theorem Str.d_one (f : Str) : f.d.all D.one = true := by simp [Str.d, D.one, Value.oneCell']
theorem Enm.d_one (f : Enm) : f.d.all D.one = true := by simp [Enm.d, D.one, Value.oneCell']
theorem Fnc.d_one (f : Fnc) : f.d.all D.one = true := by simp [Fnc.d, D.one, Value.oneCell']
theorem Plc.d_one (f : Plc) : f.d.all D.one = true := by simp [Plc.d, D.one, Value.oneCell']
theorem Opr.d_one (f : Opr) : f.d.all D.one = true := by simp [Opr.d, D.one, Value.oneCell', Plc.d_one]
theorem Rvl.d_one (f : Rvl) : f.d.all D.one = true := by simp [Rvl.d, D.one, Value.oneCell', Plc.d_one]
theorem Arm.d_one (f : Arm) : f.d.all D.one = true := by cases f; simp [Arm.d, D.one, Value.oneCell']
theorem Stm.d_one (f : Stm) : f.d.all D.one = true := by cases f; simp [Stm.d, D.one, Value.oneCell', Ty.d_one, Plc.d_one, Rvl.d_one, Opr.d_one]
theorem Plc.d_len (f : Plc) : f.d.length = 2 := by simp [Plc.d]
theorem Opr.d_len (f : Opr) : f.d.length = 4 := by simp [Opr.d, Plc.d_len]
theorem Rvl.d_len (f : Rvl) : f.d.length = 6 := by simp [Rvl.d, Plc.d_len]
theorem Arm.d_len (f : Arm) : f.d.length = 3 := by cases f; simp [Arm.d]
theorem Stm.d_len (f : Stm) : f.d.length = 21 := by cases f; simp [Stm.d, Ty.d_len, Plc.d_len, Rvl.d_len, Opr.d_len]
def eqL {α : Type} (q : α → α → Bool) : List α → List α → Bool
  | [], [] => true
  | a :: r, b :: s => q a b && eqL q r s
  | _, _ => false
theorem eqL_len {α : Type} {q : α → α → Bool} : ∀ {l l' : List α}, l.length ≠ l'.length → eqL q l l' = false
  | [], [], h => absurd rfl h
  | [], _ :: _, _ => rfl
  | _ :: _, [], _ => rfl
  | _ :: r, _ :: s, h => by rw [eqL, eqL_len (by simpa using h), Bool.and_false]
theorem eqL_drop {α : Type} {q : α → α → Bool} {l l' : List α} {i : Nat} {x y : α} (hx : l[i]? = some x) (hy : l'[i]? = some y) : eqL q (l.drop i) (l'.drop i) = (q x y && eqL q (l.drop (i + 1)) (l'.drop (i + 1))) := by
  obtain ⟨h1, e1⟩ := List.getElem?_eq_some_iff.1 hx
  obtain ⟨h2, e2⟩ := List.getElem?_eq_some_iff.1 hy
  rw [List.drop_eq_getElem_cons h1, List.drop_eq_getElem_cons h2, e1, e2, eqL]
theorem range_bel {w w' : World} {b o : Nat} {cs : List Value} (h : w.rangeAt b o cs) (hb : Below w.heap.size w w') : w'.rangeAt b o cs := fun j v hj => (World.cell?_of_block (hb.block _ (World.block_lt_of_cell? w _ (h j v hj)))).trans (h j v hj)
set_option maxRecDepth 100000 in
set_option maxHeartbeats 8000000 in
theorem equalField_any (l l' : List Fld) (u u' : Value) (q : Fld → Fld → Bool) (fn : Nat) (cap : Array Value) (W : World) (hs : See W u (.row 79 4 (l.map Fld.d))) (hs' : See W u' (.row 79 4 (l'.map Fld.d)))
    (he : ∀ args w, (callFunc fn args).run Tryz.prog w = .ok (.enter fn args) w)
    (hf : ∀ (i : Nat) (x y : Fld) (cs cs' : List Value) (w : World), l[i]? = some x → l'[i]? = some y → Below W.heap.size W w → Sees w cs x.d → Sees w cs' y.d → Calls Tryz.prog fn (#[.agg cs.toArray, .agg cs'.toArray] ++ cap) w fun e w' => e = .returned (.bool (q x y)) ∧ Below w.heap.size w w') :
    Calls Tryz.prog 60 #[u, u', .func (.func fn) #[] cap] W fun e w' => e = .returned (.bool (eqL q l l')) ∧ Below W.heap.size W w' := by
  obtain ⟨A, c, rfl, hlc, hcm⟩ := hs.formOf
  obtain ⟨A', c', rfl, hlc', hcm'⟩ := hs'.formOf
  have HS := Lib.hid hs
  have HS' := Lib.hid hs'
  have HF := Lib.hid hf
  have HN := Lib.hid he
  clear hs hs' hf he
  by_cases hne : l.length = l'.length
  case neg =>
    have HE := Lib.hid (eqL_len (q := q) hne)
    have hni : ¬ (l.length : Int) = (l'.length : Int) := by omega
    go_enter Tryz.func60, Tryz.ntmps60
    go_wp2_with fail
    go_ret
    exact ⟨by rw [HE.out]; rfl, Below.refl _ _⟩
  case pos =>
  rw [← hne] at HS' ⊢
  have HNE := Lib.hid hne
  clear hne
  go_enter Tryz.func60, Tryz.ntmps60
  go_wp2_with fail
  go_loopw [17] (fun v17 wr => ∃ i : Nat, v17 = .int .i64 i ∧ i ≤ l.length ∧ Hid (eqL q l l' = eqL q (l.drop i) (l'.drop i)) ∧ Hid (Below W.heap.size W wr)) (fun v17 _ => l.length - (intOf v17).toNat)
  case atStart => exact ⟨0, rfl, Nat.zero_le _, Lib.hid rfl, Lib.hid (Below.refl _ _)⟩
  case round =>
    obtain ⟨i, rfl, hi, hp, hb⟩ := hrel
    by_cases hlt : i < l.length
    · have htl : (i : Int) < (l.length : Int) := by omega
      obtain ⟨x, hx⟩ : ∃ t, l[i]? = some t := ⟨_, List.getElem?_eq_getElem hlt⟩
      obtain ⟨y, hy⟩ : ∃ t, l'[i]? = some t := ⟨_, List.getElem?_eq_getElem (by rw [← HNE.out]; exact hlt)⟩
      rw [eqL_drop hx hy] at hp
      obtain ⟨b, o, cs, rfl, hse, hrg⟩ := (HS.out.bel hb.out).elts (by rw [List.getElem?_map, hx]; rfl)
      obtain ⟨b', o', cs', rfl, hse', hrg'⟩ := (HS'.out.bel hb.out).elts (by rw [List.getElem?_map, hy]; rfl)
      have hcl : cs.length = 4 := by rw [hse.length, Fld.d_len]
      have hcl' : cs'.length = 4 := by rw [hse'.length, Fld.d_len]
      have RG : Hid (wr.rangeAt b (o + i * 4) cs) := Lib.hid hrg
      have RG' : Hid (wr.rangeAt b' (o' + i * 4) cs') := Lib.hid hrg'
      have CL := Lib.hid hcl
      have CL' := Lib.hid hcl'
      have SE := Lib.hid hse
      have SE' := Lib.hid hse'
      have HX := Lib.hid hx
      have HY := Lib.hid hy
      clear hx hy hse hse' hrg hrg' hcl hcl'
      go_upto_region 6 with (first
        | (with_reducible refine wpList_load_mid (op := ⟨some 21, .load 79 (.tmp 20), _, _, _, _⟩) rfl 79 _ rfl b (o + i * 4) rfl cs _ RG.out Tryz.underlying79 rfl (by rw [CL.out]; kernel_rfl) ?_)
        | (with_reducible refine wpList_store_row (o := ⟨none, .store 79 (.tmp 8) (.tmp 21), _, _, _, _⟩) rfl 79 _ _ rfl wr.heap.size cs.toArray rfl rfl 79 #[.string ⟨#[]⟩, .int .i64 0, .string ⟨#[]⟩, .slice none 0 0] (heap_alloc_new wr _) (by rw [List.size_toArray, CL.out]; kernel_rfl) (by simp [CL.out]) (SE.out.one (Fld.d_one x)) ?_
           rw [World.setRow_alloc_new]))
      have hb1 := bel_box wr (.cells cs.toArray 79)
      have B1 := Lib.hid (bel_to hb.out hb.out.size hb1)
      have X1 : Hid (Bx 79 (wr.alloc (.cells cs.toArray 79)) wr.heap.size cs.toArray) := Lib.hid (Bx.newAt rfl)
      have RG1 := Lib.hid (range_bel RG'.out hb1)
      have T1 := Lib.hid (SE.out.below hb1)
      have T1' := Lib.hid (SE'.out.below hb1)
      clear hb1 RG RG' SE SE'
      generalize wr.alloc (.cells cs.toArray 79) = w1 at *
      generalize wr.heap.size = g1 at *
      go_upto_region 7 with (first
        | (with_reducible refine wpList_load_mid (op := ⟨some 25, .load 79 (.tmp 24), _, _, _, _⟩) rfl 79 _ rfl b' (o' + i * 4) rfl cs' _ RG1.out Tryz.underlying79 rfl (by rw [CL'.out]; kernel_rfl) ?_)
        | (with_reducible refine wpList_store_row (o := ⟨none, .store 79 (.tmp 9) (.tmp 25), _, _, _, _⟩) rfl 79 _ _ rfl w1.heap.size cs'.toArray rfl rfl 79 #[.string ⟨#[]⟩, .int .i64 0, .string ⟨#[]⟩, .slice none 0 0] (heap_alloc_new w1 _) (by rw [List.size_toArray, CL'.out]; kernel_rfl) (by simp [CL'.out]) (T1'.out.one (Fld.d_one y)) ?_
           rw [World.setRow_alloc_new]))
      have hb2 := bel_box w1 (.cells cs'.toArray 79)
      have B2 := Lib.hid (bel_to B1.out B1.out.size hb2)
      have X2 := Lib.hid (X1.out.alloc (.cells cs'.toArray 79))
      have Y2 : Hid (Bx 79 (w1.alloc (.cells cs'.toArray 79)) w1.heap.size cs'.toArray) := Lib.hid (Bx.newAt rfl)
      have T2 := Lib.hid (T1.out.below hb2)
      have T2' := Lib.hid (T1'.out.below hb2)
      clear hb2 RG1 T1 T1' X1
      generalize w1.alloc (.cells cs'.toArray 79) = w2 at *
      generalize w1.heap.size = g2 at *
      have HX2 : Hid (w2.heap[g1]? = some (.cells cs.toArray 79 (0, 0))) := Lib.hid X2.out
      have HY2 : Hid (w2.heap[g2]? = some (.cells cs'.toArray 79 (0, 0))) := Lib.hid Y2.out
      go_wp2_with (first
        | (with_reducible refine wpList_load_row (o := ⟨some 27, .load 79 (.tmp 8), _, _, _, _⟩) rfl 79 _ rfl g1 rfl 79 cs.toArray (0, 0) _ HX2.out Tryz.underlying79 (by kernel_rfl) (by rw [List.size_toArray, CL.out]; kernel_rfl) ?_)
        | (with_reducible refine wpList_load_row (o := ⟨some 28, .load 79 (.tmp 9), _, _, _, _⟩) rfl 79 _ rfl g2 rfl 79 cs'.toArray (0, 0) _ HY2.out Tryz.underlying79 (by kernel_rfl) (by rw [List.size_toArray, CL'.out]; kernel_rfl) ?_))
      rw [HN.out, Oper.upon_enter]
      refine (HF.out i x y cs cs' w2 HX.out HY.out B2.out T2.out T2'.out).mono ?_
      rintro e w3 ⟨rfl, hb3⟩
      have B3 := Lib.hid (bel_to B2.out B2.out.size hb3)
      clear hb3 T2 T2' X2 Y2 B1 B2 hb
      generalize hq : q x y = r at *
      clear hq
      cases r with
      | true =>
        have HP2 : Hid (eqL q l l' = eqL q (l.drop (i + 1)) (l'.drop (i + 1))) := Lib.hid (by rw [hp.out]; rfl)
        go_wp2_with fail
        go_roundw
        case rel => exact ⟨i + 1, by go_num, by omega, HP2, B3⟩
        case measure => simp [intOf]; omega
      | false =>
        have HP2 : Hid (eqL q l l' = false) := Lib.hid (by rw [hp.out]; rfl)
        go_wp2_with fail
        go_ret
        exact ⟨by rw [HP2.out]; rfl, B3.out⟩
    · obtain rfl : i = l.length := by omega
      have HP2 : Hid (eqL q l l' = true) := Lib.hid (by
        have h := HNE.out
        rw [hp.out, List.drop_length, h, List.drop_length]; rfl)
      go_wp2_with fail
      go_ret
      exact ⟨by rw [HP2.out]; rfl, hb.out⟩
set_option maxRecDepth 100000 in
set_option maxHeartbeats 8000000 in
theorem equalVariant_any (l l' : List Fld) (u u' : Value) (q : Fld → Fld → Bool) (fn : Nat) (cap : Array Value) (W : World) (hs : See W u (.row 86 4 (l.map Fld.d))) (hs' : See W u' (.row 86 4 (l'.map Fld.d)))
    (he : ∀ args w, (callFunc fn args).run Tryz.prog w = .ok (.enter fn args) w)
    (hf : ∀ (i : Nat) (x y : Fld) (cs cs' : List Value) (w : World), l[i]? = some x → l'[i]? = some y → Below W.heap.size W w → Sees w cs x.d → Sees w cs' y.d → Calls Tryz.prog fn (#[.agg cs.toArray, .agg cs'.toArray] ++ cap) w fun e w' => e = .returned (.bool (q x y)) ∧ Below w.heap.size w w') :
    Calls Tryz.prog 65 #[u, u', .func (.func fn) #[] cap] W fun e w' => e = .returned (.bool (eqL q l l')) ∧ Below W.heap.size W w' := by
  obtain ⟨A, c, rfl, hlc, hcm⟩ := hs.formOf
  obtain ⟨A', c', rfl, hlc', hcm'⟩ := hs'.formOf
  have HS := Lib.hid hs
  have HS' := Lib.hid hs'
  have HF := Lib.hid hf
  have HN := Lib.hid he
  clear hs hs' hf he
  by_cases hne : l.length = l'.length
  case neg =>
    have HE := Lib.hid (eqL_len (q := q) hne)
    have hni : ¬ (l.length : Int) = (l'.length : Int) := by omega
    go_enter Tryz.func65, Tryz.ntmps65
    go_wp2_with fail
    go_ret
    exact ⟨by rw [HE.out]; rfl, Below.refl _ _⟩
  case pos =>
  rw [← hne] at HS' ⊢
  have HNE := Lib.hid hne
  clear hne
  go_enter Tryz.func65, Tryz.ntmps65
  go_wp2_with fail
  go_loopw [17] (fun v17 wr => ∃ i : Nat, v17 = .int .i64 i ∧ i ≤ l.length ∧ Hid (eqL q l l' = eqL q (l.drop i) (l'.drop i)) ∧ Hid (Below W.heap.size W wr)) (fun v17 _ => l.length - (intOf v17).toNat)
  case atStart => exact ⟨0, rfl, Nat.zero_le _, Lib.hid rfl, Lib.hid (Below.refl _ _)⟩
  case round =>
    obtain ⟨i, rfl, hi, hp, hb⟩ := hrel
    by_cases hlt : i < l.length
    · have htl : (i : Int) < (l.length : Int) := by omega
      obtain ⟨x, hx⟩ : ∃ t, l[i]? = some t := ⟨_, List.getElem?_eq_getElem hlt⟩
      obtain ⟨y, hy⟩ : ∃ t, l'[i]? = some t := ⟨_, List.getElem?_eq_getElem (by rw [← HNE.out]; exact hlt)⟩
      rw [eqL_drop hx hy] at hp
      obtain ⟨b, o, cs, rfl, hse, hrg⟩ := (HS.out.bel hb.out).elts (by rw [List.getElem?_map, hx]; rfl)
      obtain ⟨b', o', cs', rfl, hse', hrg'⟩ := (HS'.out.bel hb.out).elts (by rw [List.getElem?_map, hy]; rfl)
      have hcl : cs.length = 4 := by rw [hse.length, Fld.d_len]
      have hcl' : cs'.length = 4 := by rw [hse'.length, Fld.d_len]
      have RG : Hid (wr.rangeAt b (o + i * 4) cs) := Lib.hid hrg
      have RG' : Hid (wr.rangeAt b' (o' + i * 4) cs') := Lib.hid hrg'
      have CL := Lib.hid hcl
      have CL' := Lib.hid hcl'
      have SE := Lib.hid hse
      have SE' := Lib.hid hse'
      have HX := Lib.hid hx
      have HY := Lib.hid hy
      clear hx hy hse hse' hrg hrg' hcl hcl'
      go_upto_region 6 with (first
        | (with_reducible refine wpList_load_mid (op := ⟨some 21, .load 86 (.tmp 20), _, _, _, _⟩) rfl 86 _ rfl b (o + i * 4) rfl cs _ RG.out Tryz.underlying86 rfl (by rw [CL.out]; kernel_rfl) ?_)
        | (with_reducible refine wpList_store_row (o := ⟨none, .store 86 (.tmp 8) (.tmp 21), _, _, _, _⟩) rfl 86 _ _ rfl wr.heap.size cs.toArray rfl rfl 86 #[.string ⟨#[]⟩, .int .i64 0, .string ⟨#[]⟩, .slice none 0 0] (heap_alloc_new wr _) (by rw [List.size_toArray, CL.out]; kernel_rfl) (by simp [CL.out]) (SE.out.one (Fld.d_one x)) ?_
           rw [World.setRow_alloc_new]))
      have hb1 := bel_box wr (.cells cs.toArray 86)
      have B1 := Lib.hid (bel_to hb.out hb.out.size hb1)
      have X1 : Hid (Bx 86 (wr.alloc (.cells cs.toArray 86)) wr.heap.size cs.toArray) := Lib.hid (Bx.newAt rfl)
      have RG1 := Lib.hid (range_bel RG'.out hb1)
      have T1 := Lib.hid (SE.out.below hb1)
      have T1' := Lib.hid (SE'.out.below hb1)
      clear hb1 RG RG' SE SE'
      generalize wr.alloc (.cells cs.toArray 86) = w1 at *
      generalize wr.heap.size = g1 at *
      go_upto_region 7 with (first
        | (with_reducible refine wpList_load_mid (op := ⟨some 25, .load 86 (.tmp 24), _, _, _, _⟩) rfl 86 _ rfl b' (o' + i * 4) rfl cs' _ RG1.out Tryz.underlying86 rfl (by rw [CL'.out]; kernel_rfl) ?_)
        | (with_reducible refine wpList_store_row (o := ⟨none, .store 86 (.tmp 9) (.tmp 25), _, _, _, _⟩) rfl 86 _ _ rfl w1.heap.size cs'.toArray rfl rfl 86 #[.string ⟨#[]⟩, .int .i64 0, .string ⟨#[]⟩, .slice none 0 0] (heap_alloc_new w1 _) (by rw [List.size_toArray, CL'.out]; kernel_rfl) (by simp [CL'.out]) (T1'.out.one (Fld.d_one y)) ?_
           rw [World.setRow_alloc_new]))
      have hb2 := bel_box w1 (.cells cs'.toArray 86)
      have B2 := Lib.hid (bel_to B1.out B1.out.size hb2)
      have X2 := Lib.hid (X1.out.alloc (.cells cs'.toArray 86))
      have Y2 : Hid (Bx 86 (w1.alloc (.cells cs'.toArray 86)) w1.heap.size cs'.toArray) := Lib.hid (Bx.newAt rfl)
      have T2 := Lib.hid (T1.out.below hb2)
      have T2' := Lib.hid (T1'.out.below hb2)
      clear hb2 RG1 T1 T1' X1
      generalize w1.alloc (.cells cs'.toArray 86) = w2 at *
      generalize w1.heap.size = g2 at *
      have HX2 : Hid (w2.heap[g1]? = some (.cells cs.toArray 86 (0, 0))) := Lib.hid X2.out
      have HY2 : Hid (w2.heap[g2]? = some (.cells cs'.toArray 86 (0, 0))) := Lib.hid Y2.out
      go_wp2_with (first
        | (with_reducible refine wpList_load_row (o := ⟨some 27, .load 86 (.tmp 8), _, _, _, _⟩) rfl 86 _ rfl g1 rfl 86 cs.toArray (0, 0) _ HX2.out Tryz.underlying86 (by kernel_rfl) (by rw [List.size_toArray, CL.out]; kernel_rfl) ?_)
        | (with_reducible refine wpList_load_row (o := ⟨some 28, .load 86 (.tmp 9), _, _, _, _⟩) rfl 86 _ rfl g2 rfl 86 cs'.toArray (0, 0) _ HY2.out Tryz.underlying86 (by kernel_rfl) (by rw [List.size_toArray, CL'.out]; kernel_rfl) ?_))
      rw [HN.out, Oper.upon_enter]
      refine (HF.out i x y cs cs' w2 HX.out HY.out B2.out T2.out T2'.out).mono ?_
      rintro e w3 ⟨rfl, hb3⟩
      have B3 := Lib.hid (bel_to B2.out B2.out.size hb3)
      clear hb3 T2 T2' X2 Y2 B1 B2 hb
      generalize hq : q x y = r at *
      clear hq
      cases r with
      | true =>
        have HP2 : Hid (eqL q l l' = eqL q (l.drop (i + 1)) (l'.drop (i + 1))) := Lib.hid (by rw [hp.out]; rfl)
        go_wp2_with fail
        go_roundw
        case rel => exact ⟨i + 1, by go_num, by omega, HP2, B3⟩
        case measure => simp [intOf]; omega
      | false =>
        have HP2 : Hid (eqL q l l' = false) := Lib.hid (by rw [hp.out]; rfl)
        go_wp2_with fail
        go_ret
        exact ⟨by rw [HP2.out]; rfl, B3.out⟩
    · obtain rfl : i = l.length := by omega
      have HP2 : Hid (eqL q l l' = true) := Lib.hid (by
        have h := HNE.out
        rw [hp.out, List.drop_length, h, List.drop_length]; rfl)
      go_wp2_with fail
      go_ret
      exact ⟨by rw [HP2.out]; rfl, hb.out⟩
set_option maxRecDepth 100000 in
set_option maxHeartbeats 8000000 in
theorem equalTy_any (l l' : List Ty) (u u' : Value) (q : Ty → Ty → Bool) (fn : Nat) (cap : Array Value) (W : World) (hs : See W u (.row 37 3 (l.map Ty.d))) (hs' : See W u' (.row 37 3 (l'.map Ty.d)))
    (he : ∀ args w, (callFunc fn args).run Tryz.prog w = .ok (.enter fn args) w)
    (hf : ∀ (i : Nat) (x y : Ty) (cs cs' : List Value) (w : World), l[i]? = some x → l'[i]? = some y → Below W.heap.size W w → Sees w cs x.d → Sees w cs' y.d → Calls Tryz.prog fn (#[.agg cs.toArray, .agg cs'.toArray] ++ cap) w fun e w' => e = .returned (.bool (q x y)) ∧ Below w.heap.size w w') :
    Calls Tryz.prog 126 #[u, u', .func (.func fn) #[] cap] W fun e w' => e = .returned (.bool (eqL q l l')) ∧ Below W.heap.size W w' := by
  obtain ⟨A, c, rfl, hlc, hcm⟩ := hs.formOf
  obtain ⟨A', c', rfl, hlc', hcm'⟩ := hs'.formOf
  have HS := Lib.hid hs
  have HS' := Lib.hid hs'
  have HF := Lib.hid hf
  have HN := Lib.hid he
  clear hs hs' hf he
  by_cases hne : l.length = l'.length
  case neg =>
    have HE := Lib.hid (eqL_len (q := q) hne)
    have hni : ¬ (l.length : Int) = (l'.length : Int) := by omega
    go_enter Tryz.func126, Tryz.ntmps126
    go_wp2_with fail
    go_ret
    exact ⟨by rw [HE.out]; rfl, Below.refl _ _⟩
  case pos =>
  rw [← hne] at HS' ⊢
  have HNE := Lib.hid hne
  clear hne
  go_enter Tryz.func126, Tryz.ntmps126
  go_wp2_with fail
  go_loopw [17] (fun v17 wr => ∃ i : Nat, v17 = .int .i64 i ∧ i ≤ l.length ∧ Hid (eqL q l l' = eqL q (l.drop i) (l'.drop i)) ∧ Hid (Below W.heap.size W wr)) (fun v17 _ => l.length - (intOf v17).toNat)
  case atStart => exact ⟨0, rfl, Nat.zero_le _, Lib.hid rfl, Lib.hid (Below.refl _ _)⟩
  case round =>
    obtain ⟨i, rfl, hi, hp, hb⟩ := hrel
    by_cases hlt : i < l.length
    · have htl : (i : Int) < (l.length : Int) := by omega
      obtain ⟨x, hx⟩ : ∃ t, l[i]? = some t := ⟨_, List.getElem?_eq_getElem hlt⟩
      obtain ⟨y, hy⟩ : ∃ t, l'[i]? = some t := ⟨_, List.getElem?_eq_getElem (by rw [← HNE.out]; exact hlt)⟩
      rw [eqL_drop hx hy] at hp
      obtain ⟨b, o, cs, rfl, hse, hrg⟩ := (HS.out.bel hb.out).elts (by rw [List.getElem?_map, hx]; rfl)
      obtain ⟨b', o', cs', rfl, hse', hrg'⟩ := (HS'.out.bel hb.out).elts (by rw [List.getElem?_map, hy]; rfl)
      have hcl : cs.length = 3 := by rw [hse.length, Ty.d_len]
      have hcl' : cs'.length = 3 := by rw [hse'.length, Ty.d_len]
      have RG : Hid (wr.rangeAt b (o + i * 3) cs) := Lib.hid hrg
      have RG' : Hid (wr.rangeAt b' (o' + i * 3) cs') := Lib.hid hrg'
      have CL := Lib.hid hcl
      have CL' := Lib.hid hcl'
      have SE := Lib.hid hse
      have SE' := Lib.hid hse'
      have HX := Lib.hid hx
      have HY := Lib.hid hy
      clear hx hy hse hse' hrg hrg' hcl hcl'
      go_upto_region 6 with (first
        | (with_reducible refine wpList_load_mid (op := ⟨some 21, .load 37 (.tmp 20), _, _, _, _⟩) rfl 37 _ rfl b (o + i * 3) rfl cs _ RG.out Tryz.underlying37 rfl (by rw [CL.out]; kernel_rfl) ?_)
        | (with_reducible refine wpList_store_row (o := ⟨none, .store 37 (.tmp 8) (.tmp 21), _, _, _, _⟩) rfl 37 _ _ rfl wr.heap.size cs.toArray rfl rfl 37 #[.int .i64 0, .string ⟨#[]⟩, .slice none 0 0] (heap_alloc_new wr _) (by rw [List.size_toArray, CL.out]; kernel_rfl) (by simp [CL.out]) (SE.out.one (Ty.d_one x)) ?_
           rw [World.setRow_alloc_new]))
      have hb1 := bel_box wr (.cells cs.toArray 37)
      have B1 := Lib.hid (bel_to hb.out hb.out.size hb1)
      have X1 : Hid (Bx 37 (wr.alloc (.cells cs.toArray 37)) wr.heap.size cs.toArray) := Lib.hid (Bx.newAt rfl)
      have RG1 := Lib.hid (range_bel RG'.out hb1)
      have T1 := Lib.hid (SE.out.below hb1)
      have T1' := Lib.hid (SE'.out.below hb1)
      clear hb1 RG RG' SE SE'
      generalize wr.alloc (.cells cs.toArray 37) = w1 at *
      generalize wr.heap.size = g1 at *
      go_upto_region 7 with (first
        | (with_reducible refine wpList_load_mid (op := ⟨some 25, .load 37 (.tmp 24), _, _, _, _⟩) rfl 37 _ rfl b' (o' + i * 3) rfl cs' _ RG1.out Tryz.underlying37 rfl (by rw [CL'.out]; kernel_rfl) ?_)
        | (with_reducible refine wpList_store_row (o := ⟨none, .store 37 (.tmp 9) (.tmp 25), _, _, _, _⟩) rfl 37 _ _ rfl w1.heap.size cs'.toArray rfl rfl 37 #[.int .i64 0, .string ⟨#[]⟩, .slice none 0 0] (heap_alloc_new w1 _) (by rw [List.size_toArray, CL'.out]; kernel_rfl) (by simp [CL'.out]) (T1'.out.one (Ty.d_one y)) ?_
           rw [World.setRow_alloc_new]))
      have hb2 := bel_box w1 (.cells cs'.toArray 37)
      have B2 := Lib.hid (bel_to B1.out B1.out.size hb2)
      have X2 := Lib.hid (X1.out.alloc (.cells cs'.toArray 37))
      have Y2 : Hid (Bx 37 (w1.alloc (.cells cs'.toArray 37)) w1.heap.size cs'.toArray) := Lib.hid (Bx.newAt rfl)
      have T2 := Lib.hid (T1.out.below hb2)
      have T2' := Lib.hid (T1'.out.below hb2)
      clear hb2 RG1 T1 T1' X1
      generalize w1.alloc (.cells cs'.toArray 37) = w2 at *
      generalize w1.heap.size = g2 at *
      have HX2 : Hid (w2.heap[g1]? = some (.cells cs.toArray 37 (0, 0))) := Lib.hid X2.out
      have HY2 : Hid (w2.heap[g2]? = some (.cells cs'.toArray 37 (0, 0))) := Lib.hid Y2.out
      go_wp2_with (first
        | (with_reducible refine wpList_load_row (o := ⟨some 27, .load 37 (.tmp 8), _, _, _, _⟩) rfl 37 _ rfl g1 rfl 37 cs.toArray (0, 0) _ HX2.out Tryz.underlying37 (by kernel_rfl) (by rw [List.size_toArray, CL.out]; kernel_rfl) ?_)
        | (with_reducible refine wpList_load_row (o := ⟨some 28, .load 37 (.tmp 9), _, _, _, _⟩) rfl 37 _ rfl g2 rfl 37 cs'.toArray (0, 0) _ HY2.out Tryz.underlying37 (by kernel_rfl) (by rw [List.size_toArray, CL'.out]; kernel_rfl) ?_))
      rw [HN.out, Oper.upon_enter]
      refine (HF.out i x y cs cs' w2 HX.out HY.out B2.out T2.out T2'.out).mono ?_
      rintro e w3 ⟨rfl, hb3⟩
      have B3 := Lib.hid (bel_to B2.out B2.out.size hb3)
      clear hb3 T2 T2' X2 Y2 B1 B2 hb
      generalize hq : q x y = r at *
      clear hq
      cases r with
      | true =>
        have HP2 : Hid (eqL q l l' = eqL q (l.drop (i + 1)) (l'.drop (i + 1))) := Lib.hid (by rw [hp.out]; rfl)
        go_wp2_with fail
        go_roundw
        case rel => exact ⟨i + 1, by go_num, by omega, HP2, B3⟩
        case measure => simp [intOf]; omega
      | false =>
        have HP2 : Hid (eqL q l l' = false) := Lib.hid (by rw [hp.out]; rfl)
        go_wp2_with fail
        go_ret
        exact ⟨by rw [HP2.out]; rfl, B3.out⟩
    · obtain rfl : i = l.length := by omega
      have HP2 : Hid (eqL q l l' = true) := Lib.hid (by
        have h := HNE.out
        rw [hp.out, List.drop_length, h, List.drop_length]; rfl)
      go_wp2_with fail
      go_ret
      exact ⟨by rw [HP2.out]; rfl, hb.out⟩
set_option maxRecDepth 100000 in
set_option maxHeartbeats 8000000 in
theorem equalOper_any (l l' : List Opr) (u u' : Value) (q : Opr → Opr → Bool) (fn : Nat) (cap : Array Value) (W : World) (hs : See W u (.row 53 4 (l.map Opr.d))) (hs' : See W u' (.row 53 4 (l'.map Opr.d)))
    (he : ∀ args w, (callFunc fn args).run Tryz.prog w = .ok (.enter fn args) w)
    (hf : ∀ (i : Nat) (x y : Opr) (cs cs' : List Value) (w : World), l[i]? = some x → l'[i]? = some y → Below W.heap.size W w → Sees w cs x.d → Sees w cs' y.d → Calls Tryz.prog fn (#[.agg cs.toArray, .agg cs'.toArray] ++ cap) w fun e w' => e = .returned (.bool (q x y)) ∧ Below w.heap.size w w') :
    Calls Tryz.prog 182 #[u, u', .func (.func fn) #[] cap] W fun e w' => e = .returned (.bool (eqL q l l')) ∧ Below W.heap.size W w' := by
  obtain ⟨A, c, rfl, hlc, hcm⟩ := hs.formOf
  obtain ⟨A', c', rfl, hlc', hcm'⟩ := hs'.formOf
  have HS := Lib.hid hs
  have HS' := Lib.hid hs'
  have HF := Lib.hid hf
  have HN := Lib.hid he
  clear hs hs' hf he
  by_cases hne : l.length = l'.length
  case neg =>
    have HE := Lib.hid (eqL_len (q := q) hne)
    have hni : ¬ (l.length : Int) = (l'.length : Int) := by omega
    go_enter Tryz.func182, Tryz.ntmps182
    go_wp2_with fail
    go_ret
    exact ⟨by rw [HE.out]; rfl, Below.refl _ _⟩
  case pos =>
  rw [← hne] at HS' ⊢
  have HNE := Lib.hid hne
  clear hne
  go_enter Tryz.func182, Tryz.ntmps182
  go_wp2_with fail
  go_loopw [17] (fun v17 wr => ∃ i : Nat, v17 = .int .i64 i ∧ i ≤ l.length ∧ Hid (eqL q l l' = eqL q (l.drop i) (l'.drop i)) ∧ Hid (Below W.heap.size W wr)) (fun v17 _ => l.length - (intOf v17).toNat)
  case atStart => exact ⟨0, rfl, Nat.zero_le _, Lib.hid rfl, Lib.hid (Below.refl _ _)⟩
  case round =>
    obtain ⟨i, rfl, hi, hp, hb⟩ := hrel
    by_cases hlt : i < l.length
    · have htl : (i : Int) < (l.length : Int) := by omega
      obtain ⟨x, hx⟩ : ∃ t, l[i]? = some t := ⟨_, List.getElem?_eq_getElem hlt⟩
      obtain ⟨y, hy⟩ : ∃ t, l'[i]? = some t := ⟨_, List.getElem?_eq_getElem (by rw [← HNE.out]; exact hlt)⟩
      rw [eqL_drop hx hy] at hp
      obtain ⟨b, o, cs, rfl, hse, hrg⟩ := (HS.out.bel hb.out).elts (by rw [List.getElem?_map, hx]; rfl)
      obtain ⟨b', o', cs', rfl, hse', hrg'⟩ := (HS'.out.bel hb.out).elts (by rw [List.getElem?_map, hy]; rfl)
      have hcl : cs.length = 4 := by rw [hse.length, Opr.d_len]
      have hcl' : cs'.length = 4 := by rw [hse'.length, Opr.d_len]
      have RG : Hid (wr.rangeAt b (o + i * 4) cs) := Lib.hid hrg
      have RG' : Hid (wr.rangeAt b' (o' + i * 4) cs') := Lib.hid hrg'
      have CL := Lib.hid hcl
      have CL' := Lib.hid hcl'
      have SE := Lib.hid hse
      have SE' := Lib.hid hse'
      have HX := Lib.hid hx
      have HY := Lib.hid hy
      clear hx hy hse hse' hrg hrg' hcl hcl'
      go_upto_region 6 with (first
        | (with_reducible refine wpList_load_mid (op := ⟨some 21, .load 53 (.tmp 20), _, _, _, _⟩) rfl 53 _ rfl b (o + i * 4) rfl cs _ RG.out Tryz.underlying53 rfl (by rw [CL.out]; kernel_rfl) ?_)
        | (with_reducible refine wpList_store_row (o := ⟨none, .store 53 (.tmp 8) (.tmp 21), _, _, _, _⟩) rfl 53 _ _ rfl wr.heap.size cs.toArray rfl rfl 53 #[.bool false, .int .i64 0, .string ⟨#[]⟩, .slice none 0 0] (heap_alloc_new wr _) (by rw [List.size_toArray, CL.out]; kernel_rfl) (by simp [CL.out]) (SE.out.one (Opr.d_one x)) ?_
           rw [World.setRow_alloc_new]))
      have hb1 := bel_box wr (.cells cs.toArray 53)
      have B1 := Lib.hid (bel_to hb.out hb.out.size hb1)
      have X1 : Hid (Bx 53 (wr.alloc (.cells cs.toArray 53)) wr.heap.size cs.toArray) := Lib.hid (Bx.newAt rfl)
      have RG1 := Lib.hid (range_bel RG'.out hb1)
      have T1 := Lib.hid (SE.out.below hb1)
      have T1' := Lib.hid (SE'.out.below hb1)
      clear hb1 RG RG' SE SE'
      generalize wr.alloc (.cells cs.toArray 53) = w1 at *
      generalize wr.heap.size = g1 at *
      go_upto_region 7 with (first
        | (with_reducible refine wpList_load_mid (op := ⟨some 25, .load 53 (.tmp 24), _, _, _, _⟩) rfl 53 _ rfl b' (o' + i * 4) rfl cs' _ RG1.out Tryz.underlying53 rfl (by rw [CL'.out]; kernel_rfl) ?_)
        | (with_reducible refine wpList_store_row (o := ⟨none, .store 53 (.tmp 9) (.tmp 25), _, _, _, _⟩) rfl 53 _ _ rfl w1.heap.size cs'.toArray rfl rfl 53 #[.bool false, .int .i64 0, .string ⟨#[]⟩, .slice none 0 0] (heap_alloc_new w1 _) (by rw [List.size_toArray, CL'.out]; kernel_rfl) (by simp [CL'.out]) (T1'.out.one (Opr.d_one y)) ?_
           rw [World.setRow_alloc_new]))
      have hb2 := bel_box w1 (.cells cs'.toArray 53)
      have B2 := Lib.hid (bel_to B1.out B1.out.size hb2)
      have X2 := Lib.hid (X1.out.alloc (.cells cs'.toArray 53))
      have Y2 : Hid (Bx 53 (w1.alloc (.cells cs'.toArray 53)) w1.heap.size cs'.toArray) := Lib.hid (Bx.newAt rfl)
      have T2 := Lib.hid (T1.out.below hb2)
      have T2' := Lib.hid (T1'.out.below hb2)
      clear hb2 RG1 T1 T1' X1
      generalize w1.alloc (.cells cs'.toArray 53) = w2 at *
      generalize w1.heap.size = g2 at *
      have HX2 : Hid (w2.heap[g1]? = some (.cells cs.toArray 53 (0, 0))) := Lib.hid X2.out
      have HY2 : Hid (w2.heap[g2]? = some (.cells cs'.toArray 53 (0, 0))) := Lib.hid Y2.out
      go_wp2_with (first
        | (with_reducible refine wpList_load_row (o := ⟨some 27, .load 53 (.tmp 8), _, _, _, _⟩) rfl 53 _ rfl g1 rfl 53 cs.toArray (0, 0) _ HX2.out Tryz.underlying53 (by kernel_rfl) (by rw [List.size_toArray, CL.out]; kernel_rfl) ?_)
        | (with_reducible refine wpList_load_row (o := ⟨some 28, .load 53 (.tmp 9), _, _, _, _⟩) rfl 53 _ rfl g2 rfl 53 cs'.toArray (0, 0) _ HY2.out Tryz.underlying53 (by kernel_rfl) (by rw [List.size_toArray, CL'.out]; kernel_rfl) ?_))
      rw [HN.out, Oper.upon_enter]
      refine (HF.out i x y cs cs' w2 HX.out HY.out B2.out T2.out T2'.out).mono ?_
      rintro e w3 ⟨rfl, hb3⟩
      have B3 := Lib.hid (bel_to B2.out B2.out.size hb3)
      clear hb3 T2 T2' X2 Y2 B1 B2 hb
      generalize hq : q x y = r at *
      clear hq
      cases r with
      | true =>
        have HP2 : Hid (eqL q l l' = eqL q (l.drop (i + 1)) (l'.drop (i + 1))) := Lib.hid (by rw [hp.out]; rfl)
        go_wp2_with fail
        go_roundw
        case rel => exact ⟨i + 1, by go_num, by omega, HP2, B3⟩
        case measure => simp [intOf]; omega
      | false =>
        have HP2 : Hid (eqL q l l' = false) := Lib.hid (by rw [hp.out]; rfl)
        go_wp2_with fail
        go_ret
        exact ⟨by rw [HP2.out]; rfl, B3.out⟩
    · obtain rfl : i = l.length := by omega
      have HP2 : Hid (eqL q l l' = true) := Lib.hid (by
        have h := HNE.out
        rw [hp.out, List.drop_length, h, List.drop_length]; rfl)
      go_wp2_with fail
      go_ret
      exact ⟨by rw [HP2.out]; rfl, hb.out⟩
end Go.Proofs.YtjoiflokekebkaaGreatDoor
end

section
/- Rows of trees that are made of others. -/
namespace Go.Proofs.YtjoiflokekebkaaGreatDoor
open Go.RowKit

/-- A row of the call's own (its block is B or behind), whose elements lead to what was there in W0. -/
structure Built (W0 : World) (B : Nat) (W : World) (e : TypeId) (sz : Nat) (u : Value) (l : List (List D)) : Prop where
  own : ∃ xs : List Value, W.ownsRow B e sz u l.length xs ∧ ∀ (i : Nat) (ds : List D) (j : Nat) (d : D), l[i]? = some ds → ds[j]? = some d → See W0 (xs.getD (i * sz + j) .nilIface) d
  len : ∀ (i : Nat) (ds : List D), l[i]? = some ds → ds.length = sz
  low : Below W0.heap.size W0 W
  base : W0.heap.size ≤ B
section
variable {W0 W W' : World} {B B' : Nat} {e : TypeId} {sz : Nat} {u : Value} {l l2 : List (List D)}
theorem Built.nil (hb : Below W0.heap.size W0 W) (hB : W0.heap.size ≤ B) : Built W0 B W e sz (.slice none 0 0) [] :=
  ⟨⟨[], W.ownsRow_nil B e sz, fun i ds j d h => by simp at h⟩, fun i ds h => by simp at h, hb, hB⟩
theorem Built.move (h : Built W0 B W e sz u l) (hk : ∀ k, u.ownBlock = some k → W'.heap[k]? = W.heap[k]?) (hb : Below W0.heap.size W0 W') : Built W0 B W' e sz u l := by
  obtain ⟨⟨xs, h1, h2⟩, h3, h4, h5⟩ := h
  exact ⟨⟨xs, row_move h1 hk, h2⟩, h3, hb, h5⟩
theorem Built.lt (h : Built W0 B W e sz u l) (k : Nat) (hk : u.ownBlock = some k) : B ≤ k ∧ k < W.heap.size := by
  obtain ⟨⟨xs, h1, _⟩, _⟩ := h
  obtain ⟨h2, c, h3⟩ := row_lt h1 k hk
  exact ⟨h2, blk_lt h3⟩
theorem Built.below (h : Built W0 B W e sz u l) (hb : Below W.heap.size W W') : Built W0 B W' e sz u l :=
  h.move (fun k hk => hb.block k (h.lt k hk).2) (h.low.trans (hb.mono h.low.size))
theorem Built.slice (h : Built W0 B W e sz u l) : ∃ A c, u = .slice A l.length c := by
  obtain ⟨⟨xs, h1, _⟩, _⟩ := h
  exact row_slice h1
theorem Built.see (h : Built W0 B W e sz u l) : See W u (.row e sz l) := by
  obtain ⟨⟨xs, ⟨hxl, h1⟩, h2⟩, h3, h4, h5⟩ := h
  rcases h1 with ⟨rfl, h0⟩ | ⟨g, cap, cur, rfl, hb, hh, hc, hm, hs, ht⟩
  · obtain rfl : l = [] := List.length_eq_zero_iff.1 h0
    exact .nil _ _ _
  · refine .row (b := g) (o := 0) (xs := fun i j => xs.getD (i * sz + j) .nilIface) hc hm (fun h => by cases h) (fun _ => rfl) h3 (fun i ds j d k1 k2 => ?_) (fun i ds j d k1 k2 => (h2 i ds j d k1 k2).bel h4)
    have hj : j < sz := by rw [← h3 i ds k1]; exact (List.getElem?_eq_some_iff.1 k2).1
    have hi : i < l.length := (List.getElem?_eq_some_iff.1 k1).1
    have hlt : i * sz + j < xs.length := by
      rw [hxl]
      calc i * sz + j < i * sz + sz := by omega
        _ = (i + 1) * sz := by rw [Nat.add_mul, Nat.one_mul]
        _ ≤ l.length * sz := Nat.mul_le_mul_right _ (by omega)
    rw [Nat.zero_add, blk_cell hh, ← Array.getElem?_toList, List.getD_eq_getElem?_getD, List.getElem?_eq_getElem hlt]
    have k3 : xs[i * sz + j]? = some xs[i * sz + j] := List.getElem?_eq_getElem hlt
    have k4 : cur.toList[i * sz + j]? = some xs[i * sz + j] := by
      rw [← k3, ← ht, List.getElem?_take, if_pos (by rw [← hxl]; exact hlt)]
    exact k4
theorem See.cells_of {A : Option Addr} {n c : Nat} (h : See W (.slice A n c) (.row e sz l)) (h0 : 0 < l.length) (hs : 0 < sz) (h1 : ∀ (i : Nat) (ds : List D), l[i]? = some ds → ds.all D.one = true) :
    ∃ (b o : Nat) (news : List Value), A = some ⟨b, o, none⟩ ∧ n = l.length ∧ news.length = l.length * sz ∧ (∀ j u, news[j]? = some u → W.cell? ((⟨b, o, none⟩ : Addr).add j) = some u) ∧ (∀ u ∈ news, u.oneCell' = true) ∧
      (∀ (i : Nat) (ds : List D), l[i]? = some ds → ds.length = sz) ∧ ∀ (i : Nat) (ds : List D) (j : Nat) (d : D), l[i]? = some ds → ds[j]? = some d → See W (news.getD (i * sz + j) .nilIface) d := by
  generalize hu : Value.slice A n c = u at h
  cases h with
  | @row _ _ b o _ A' c' xs hc hm hN hA hl hx hr =>
    injection hu with e1 e2 e3
    subst e1
    refine ⟨b, o, (List.range (l.length * sz)).map (fun k => xs (k / sz) (k % sz)), hA h0, e2, by simp, fun j u hj => ?_, fun u hu => ?_, hl, fun i ds j d k1 k2 => ?_⟩
    · rw [List.getElem?_map] at hj
      obtain ⟨k, hk, rfl⟩ := Option.map_eq_some_iff.1 hj
      have hjl : j < l.length * sz := by simpa using (List.getElem?_eq_some_iff.1 hk).1
      have hkj : k = j := by
        have := (List.getElem?_eq_some_iff.1 hk).2
        simp at this
        exact this.symm
      subst hkj
      have hq : k / sz < l.length := (Nat.div_lt_iff_lt_mul hs).2 hjl
      have hmd := Nat.mod_lt k hs
      have hds : (l[k / sz]).length = sz := hl _ _ (List.getElem?_eq_getElem hq)
      rw [Addr.add_mid]
      have h3 := hx (k / sz) _ (k % sz) _ (List.getElem?_eq_getElem hq) (List.getElem?_eq_getElem (by rw [hds]; exact hmd))
      rw [← h3]
      congr 2
      have := Nat.div_add_mod k sz
      rw [Nat.mul_comm] at this
      omega
    · obtain ⟨k, hk, rfl⟩ := List.mem_map.1 hu
      have hkl : k < l.length * sz := by simpa using hk
      have hq : k / sz < l.length := (Nat.div_lt_iff_lt_mul hs).2 hkl
      have hmd := Nat.mod_lt k hs
      have hds : (l[k / sz]).length = sz := hl _ _ (List.getElem?_eq_getElem hq)
      refine (hr (k / sz) _ (k % sz) _ (List.getElem?_eq_getElem hq) (List.getElem?_eq_getElem (by rw [hds]; exact hmd))).one ?_
      exact List.all_eq_true.1 (h1 _ _ (List.getElem?_eq_getElem hq)) _ (List.getElem_mem _)
    · have hj : j < sz := by rw [← hl i ds k1]; exact (List.getElem?_eq_some_iff.1 k2).1
      have hi : i < l.length := (List.getElem?_eq_some_iff.1 k1).1
      have hlt : i * sz + j < l.length * sz := by
        calc i * sz + j < i * sz + sz := by omega
          _ = (i + 1) * sz := by rw [Nat.add_mul, Nat.one_mul]
          _ ≤ l.length * sz := Nat.mul_le_mul_right _ (by omega)
      have e5 : (i * sz + j) / sz = i := by
        rw [Nat.mul_comm, Nat.mul_add_div hs, Nat.div_eq_of_lt hj, Nat.add_zero]
      have e6 : (i * sz + j) % sz = j := by
        rw [Nat.mul_comm, Nat.mul_add_mod, Nat.mod_eq_of_lt hj]
      have : ((List.range (l.length * sz)).map (fun k => xs (k / sz) (k % sz))).getD (i * sz + j) .nilIface = xs i j := by
        rw [List.getD_eq_getElem?_getD, List.getElem?_map, List.getElem?_range hlt]
        simp only [Option.map_some, Option.getD_some, e5, e6]
      rw [this]
      exact hr i ds j d k1 k2
end
section
variable {P : Program} {W0 W : World} {B : Nat} {e : TypeId} {sz : Nat} {u v : Value} {l l2 : List (List D)}
theorem Built.run_append (t ty : TypeId) (z : Value) (bytes : Nat) (ht : P.underlying t = some (.slice e)) (hinfo : (P.info? e).map (fun i => (i.zero, i.size, i.bytes)) = some (some z, sz, bytes)) (hz : z.cells.size = sz) (hs0 : 0 < sz) (hb0 : 0 < bytes)
    (h : Built W0 B W e sz u l) (hB : B ≤ W.heap.size) (hv : See W0 v (.row e sz l2)) (h1 : ∀ (i : Nat) (ds : List D), l2[i]? = some ds → ds.all D.one = true) (hl : (l.length + l2.length) * bytes ≤ 140737488355328) :
    ∃ u1 W1, (Builtin.append_ #[t, t] ty #[u, v]).run P W = .ok u1 W1 ∧ Built W0 B W1 e sz u1 (l ++ l2) ∧ W.grownBy W1 u.ownBlock ∧ (u1.ownBlock = u.ownBlock ∨ u1.ownBlock = some W.heap.size) := by
  obtain ⟨⟨xs, ho, hx⟩, hlen, hlow, hbase⟩ := h
  obtain ⟨i0, hi, hzz⟩ := Option.map_eq_some_iff.1 hinfo
  simp only [Prod.mk.injEq] at hzz
  obtain ⟨hz0, hz1, hz2⟩ := hzz
  have hll : l.length + l2.length ≤ 140737488355328 := Nat.le_trans (Nat.le_mul_of_pos_right _ hb0) hl
  obtain ⟨A, c, rfl, hlc, hcm⟩ := hv.form
  by_cases h0 : l2 = []
  · subst h0
    have hrun : (Builtin.append_ #[t, t] ty #[u, .slice A ([] : List (List D)).length c]).run P W = .ok u W := by
      have hN := hv.none_nil
      rcases A with _ | ad
      · have := hN rfl
        subst this
        exact run_append_owned_none W B t ty e i0 sz ht hi u l.length xs ho
      · rcases ho.2 with ⟨rfl, _⟩ | ⟨g, cap, cur, rfl, _, _, hnc, _⟩
        · simp [Builtin.append_, run_underlying ht, sizeOf, typeInfo, hi, Builtin.lenOf, Builtin.firstCells, loadCells, loadCellsFrom]
        · simp [Builtin.append_, run_underlying ht, sizeOf, typeInfo, hi, Builtin.lenOf, Builtin.firstCells, hnc, storeCells, loadCells, loadCellsFrom]
    refine ⟨u, W, hrun, ?_, World.grownBy.refl W _, .inl rfl⟩
    rw [List.append_nil]
    exact ⟨⟨xs, ho, hx⟩, hlen, hlow, hbase⟩
  · have hp : 0 < l2.length := List.length_pos_iff.2 h0
    obtain ⟨b, o, news, rfl, -, hnl, hnews, hone, hlen2, hsee⟩ := hv.cells_of hp hs0 h1
    obtain ⟨v1, w1, hr, hown, hg, _, hat⟩ := run_append_own_at (P := P) W B t ty e i0 z sz bytes ht hi hz0 hz1 hz2 hz hs0 u l.length xs ho ⟨b, o, none⟩ l2.length c news hnl
      (fun j x hj => (World.cell?_of_block (hlow.block _ (World.block_lt_of_cell? _ _ (hnews j x hj)))).trans (hnews j x hj)) hone (by simp only [maxLen]; omega) hl hB
    have hxl : xs.length = l.length * sz := ho.1
    refine ⟨v1, w1, hr, ⟨⟨xs ++ news, by simpa using hown, fun i ds j d k1 k2 => ?_⟩, fun i ds k1 => ?_, ?_, hbase⟩, hg, hat⟩
    · by_cases hil : i < l.length
      · rw [List.getElem?_append_left hil] at k1
        have hj : j < sz := by rw [← hlen i ds k1]; exact (List.getElem?_eq_some_iff.1 k2).1
        have hlt : i * sz + j < xs.length := by
          rw [hxl]
          calc i * sz + j < i * sz + sz := by omega
            _ = (i + 1) * sz := by rw [Nat.add_mul, Nat.one_mul]
            _ ≤ l.length * sz := Nat.mul_le_mul_right _ (by omega)
        rw [getD_app_left hlt]
        exact hx i ds j d k1 k2
      · rw [List.getElem?_append_right (by omega)] at k1
        have : i * sz + j = xs.length + ((i - l.length) * sz + j) := by
          rw [hxl, ← Nat.add_assoc, ← Nat.add_mul]
          congr 2
          omega
        rw [this, getD_app_right]
        exact hsee _ ds j d k1 k2
    · by_cases hil : i < l.length
      · rw [List.getElem?_append_left hil] at k1; exact hlen i ds k1
      · rw [List.getElem?_append_right (by omega)] at k1; exact hlen2 _ ds k1
    · refine hlow.trans ⟨hg.os, hg.tape, hg.output, hg.size, fun k hk => hg.block k (Nat.lt_of_lt_of_le hk hlow.size) (fun e => ?_)⟩
      have := (row_lt ho k e.symm).1
      omega
theorem Built.append_at {ops : Array Oper} {rest : List Oper} {o : Oper} {a : Act} {Q : Exit → Act → World → Prop} (hgd : o.guard = none) (s x : Operand) (t : TypeId) (z : Value) (bytes : Nat)
    (ho : o.op = .call { callee := .builtin .append, args := #[s, x], argTypes := #[t, t] })
    (ht : P.underlying t = some (.slice e)) (hinfo : (P.info? e).map (fun i => (i.zero, i.size, i.bytes)) = some (some z, sz, bytes)) (hz : z.cells.size = sz) (hs0 : 0 < sz) (hb0 : 0 < bytes)
    (hs : a.eval s = u) (hx : a.eval x = v)
    (h : Built W0 B W e sz u l) (hB : B ≤ W.heap.size) (hv : See W0 v (.row e sz l2)) (h1 : ∀ (i : Nat) (ds : List D), l2[i]? = some ds → ds.all D.one = true) (hl : (l.length + l2.length) * bytes ≤ 140737488355328)
    (hk : ∀ u1 W1, Built W0 B W1 e sz u1 (l ++ l2) → W.grownBy W1 u.ownBlock → (u1.ownBlock = u.ownBlock ∨ u1.ownBlock = some W.heap.size) → wpList P ops Q rest (a.put o.dst u1) W1) :
    wpList P ops Q (o :: rest) a W := by
  refine wpList_plain hgd fun K hK => ?_
  obtain ⟨u1, W1, hr, h2, h3, h4⟩ := Built.run_append (P := P) t o.type z bytes ht hinfo hz hs0 hb0 h hB hv h1 hl
  unfold Oper.wp execOp
  simp only [ho, Go.resolve, Go.invoke, Go.builtin, Sem.run_bind, Sem.run_pure, Result.andThen_ok, List.map_toArray, List.map_cons, List.map_nil, hs, hx, hr]
  exact hK _ _ (hk u1 W1 h2 h3 h4)
end
end Go.Proofs.YtjoiflokekebkaaGreatDoor
end
