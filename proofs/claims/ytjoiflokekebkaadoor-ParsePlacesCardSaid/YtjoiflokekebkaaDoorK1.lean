/- Plain: declared types: what they hold. -/
import Derived.Test.YtjoiflokekebkaaDoorP1
import Derived.Test.YtjoiflokekebkaaDoorPa
set_option linter.all false
namespace Go.Proofs.YtjoiflokekebkaaDoor

def nmIs (a b : ByteArray) : Bool := a.toList == b.toList
theorem nmIs_iff {a b : ByteArray} : nmIs a b = true ↔ a = b := by
  unfold nmIs
  rw [beq_iff_eq, ByteArray.toList_eq, ByteArray.toList_eq]
  exact ⟨fun h => bytes_eq h, fun h => by rw [h]⟩
/-- The place of the first that is so; below 0: there is none. -/
def idxN {α : Type} (p : α → Bool) : List α → Nat → Int
  | [], _ => -1
  | x :: r, i => if p x = true then (i : Int) else idxN p r (i + 1)
def idx {α : Type} (p : α → Bool) (l : List α) : Int := idxN p l 0
def structOf (s : Src) (n : ByteArray) : Int := idx (fun x : Str => nmIs x.n n) s.ss
def enumOf (s : Src) (n : ByteArray) : Int := idx (fun x : Enm => nmIs x.n n) s.es
def fnOf (s : Src) (n : ByteArray) : Int := idx (fun x : Fnc => nmIs x.n n) s.fs
mutual
/-- A type whose names are known. -/
def resolve (s : Src) : Ty → Except Int Ty
  | .mk k n l =>
    if k = 1 then .ok (.mk k n l)
    else if k = 2 then (if structOf s n < 0 then (if enumOf s n < 0 then .error 71 else .ok (.mk 3 n l)) else .ok (.mk k n l))
    else if k = 3 then (if enumOf s n < 0 then .error 71 else .ok (.mk k n l))
    else if k = 7 then (if fnOf s n < 0 then .error 71 else .ok (.mk k n l))
    else if k = 4 ∨ k = 5 ∨ k = 6 then (if l.length = 1 then (match resolveL s l with
      | .error e => .error e
      | .ok us => .ok (.mk k n us)) else .error 80)
    else .error 80
def resolveL (s : Src) : List Ty → Except Int (List Ty)
  | [] => .ok []
  | t :: r => match resolve s t with
    | .error e => .error e
    | .ok u => match resolveL s r with
      | .error e => .error e
      | .ok us => .ok (u :: us)
end
mutual
/-- Is there a reference in it? -/
def holds : Ty → Bool
  | .mk k _ l => decide (k = 5) || decide (k = 6) || holdsL l
def holdsL : List Ty → Bool
  | [] => false
  | t :: r => holds t || holdsL r
end
def Ty.k : Ty → Int
  | .mk k _ _ => k
def Ty.n : Ty → ByteArray
  | .mk _ n _ => n
def Ty.l : Ty → List Ty
  | .mk _ _ l => l
def copies (t : Ty) : Bool := decide (t.k = 0) || decide (t.k = 1) || decide (t.k = 5)
/-- An item: is it an enum, and which one. -/
abbrev It := Bool × Nat
def itemsOf (s : Src) : List It := (List.range s.ss.length).map (fun i => (false, i)) ++ (List.range s.es.length).map (fun i => (true, i))
def itemOf (s : Src) (t : Ty) : Option It :=
  if t.k = 2 ∧ 0 ≤ structOf s t.n then some (false, (structOf s t.n).toNat)
  else if (t.k = 2 ∨ t.k = 3) ∧ 0 ≤ enumOf s t.n then some (true, (enumOf s t.n).toNat)
  else none
def strAt (s : Src) (i : Nat) : Str := s.ss.getD i ⟨noB, false, [], 0⟩
def enmAt (s : Src) (i : Nat) : Enm := s.es.getD i ⟨noB, [], 0⟩
def partsOf (s : Src) (x : It) : List Ty := if x.1 then (enmAt s x.2).vs.map (·.t) else (strAt s x.2).fs.map (·.t)
def itName (s : Src) (x : It) : ByteArray := if x.1 then (enmAt s x.2).n else (strAt s x.2).n
def itAt (s : Src) (x : It) : Int := if x.1 then (enmAt s x.2).at_ else (strAt s x.2).at_
/-- What a type leads to: itself, and the parts of what it is, and so on. -/
inductive In (s : Src) : Ty → Ty → Prop
  | refl (t : Ty) : In s t t
  | step {t u v : Ty} {x : It} : itemOf s t = some x → u ∈ partsOf s x → In s u v → In s t v
def isDrop (s : Src) (t : Ty) : Bool := decide (t.k = 4) || decide (t.k = 7) || (match itemOf s t with
  | some (false, i) => (strAt s i).drop
  | _ => false)
/-- Sizes, in so many rounds. -/
def most : Int := 1024
def sizeT (s : Src) (known : It → Int) (t : Ty) : Int :=
  if t.k = 0 then 0
  else if t.k = 2 ∨ t.k = 3 then (match itemOf s t with
    | some x => known x
    | none => 0)
  else 1
def sumCap (n : Int) : List Int → Int
  | [] => n
  | k :: r => sumCap (min (n + k) (most + 1)) r
def maxOf (n : Int) : List Int → Int
  | [] => n
  | k :: r => maxOf (max n k) r
def sizeI (s : Src) : Nat → It → Int
  | 0, _ => 0
  | n + 1, x => if x.1 then min (maxOf 0 ((partsOf s x).map (sizeT s (sizeI s n))) + 1) (most + 1) else sumCap 0 ((partsOf s x).map (sizeT s (sizeI s n)))
def countOf (s : Src) : Nat := s.ss.length + s.es.length
def sizeOf_ (s : Src) (t : Ty) : Int := sizeT s (sizeI s (countOf s)) t
def offsetOf (s : Src) (t : Ty) (field : Int) : Int :=
  if t.k = 2 ∧ 0 ≤ structOf s t.n ∧ 0 ≤ field ∧ field < (strAt s (structOf s t.n).toNat).fs.length then
    sumCap 0 (((strAt s (structOf s t.n).toNat).fs.take field.toNat).map (fun f => sizeOf_ s f.t))
  else 0

/-! ### Checking declarations -/
abbrev Err := Option (Int × Int)
def twiceN : List ByteArray → List ByteArray → Bool
  | _, [] => false
  | met, n :: r => if met.any (fun m => nmIs m n) then true else twiceN (n :: met) r
def twice (l : List Fld) : Bool := twiceN [] (l.map (·.n))
def fieldErr (s : Src) (t : Ty) : Int := match resolve s t with
  | .error e => e
  | .ok _ => if holds t then 73 else 0
def firstErr (s : Src) : List Fld → Int
  | [] => 0
  | f :: r => if fieldErr s f.t = 0 then firstErr s r else fieldErr s f.t
def fieldsErr (s : Src) (l : List Fld) : Int := if l.length > 200 then 81 else firstErr s l
/-- The first name that was met is told by its place. -/
def dupAt : List ByteArray → List (ByteArray × Int) → Err
  | _, [] => none
  | met, (n, a) :: r => if met.any (fun m => nmIs m n) then some (70, a) else dupAt (n :: met) r
def firstOf {α : Type} (f : α → Err) : List α → Err
  | [] => none
  | x :: r => match f x with
    | some e => some e
    | none => firstOf f r
def heldOf (s : Src) (x : It) : List Fld := if x.1 then (enmAt s x.2).vs.map (fun v => if v.t.k = 0 then ⟨v.n, .mk 1 noB []⟩ else v) else (strAt s x.2).fs
def namesErr (s : Src) : Err := match dupAt [] ((itemsOf s).map fun x => (itName s x, itAt s x)) with
  | some e => some e
  | none => dupAt [] (s.fs.map fun f => (f.n, f.at_))
def heldErr (s : Src) (x : It) : Err :=
  if twice (heldOf s x) then some (70, itAt s x)
  else if x.1 && (heldOf s x).isEmpty then some (83, itAt s x)
  else if fieldsErr s (heldOf s x) = 0 then none else some (fieldsErr s (heldOf s x), itAt s x)
def paramsErr (s : Src) (f : Fnc) : Err := if twice f.ps then some (70, f.at_) else if fieldsErr s f.ps = 0 then none else some (fieldsErr s f.ps, f.at_)
def holdsErr (s : Src) : Err := match firstOf (heldErr s) (itemsOf s) with
  | some e => some e
  | none => firstOf (paramsErr s) s.fs
end Go.Proofs.YtjoiflokekebkaaDoor
