/- The reader of tokens in memory, and what is read of them. -/
import Derived.Test.YtjoiflokekebkaaDoorPm
import Derived.Test.YtjoiflokekebkaaDoorL4
set_option linter.all false
namespace Go.Proofs.YtjoiflokekebkaaDoor
open Go.RowKit

/-! ### What is read, as cells -/
mutual
def Ty.d : Ty → List D
  | .mk k n l => [.v (.int .i64 k), .v (.string n), .row 53 3 (Ty.ds l)]
def Ty.ds : List Ty → List (List D)
  | [] => []
  | t :: l => t.d :: Ty.ds l
end
def Fld.d (f : Fld) : List D := .v (.string f.n) :: f.t.d
def Str.d (x : Str) : List D := [.v (.string x.n), .v (.bool x.drop), .row 96 4 (x.fs.map Fld.d), .v (.int .i64 x.at_)]
def Enm.d (x : Enm) : List D := [.v (.string x.n), .row 99 4 (x.vs.map Fld.d), .v (.int .i64 x.at_)]
def stepD (s : ByteArray) : List D := [.v (.string s)]
def Plc.d (p : Plc) : List D := [.v (.string p.n), .row 140 1 (p.p.map stepD)]
def Opr.d (o : Opr) : List D := .v (.bool o.num) :: .v (.int .i64 o.n) :: o.p.d
def Rvl.d (r : Rvl) : List D := .v (.int .i64 r.k) :: .row 62 4 (r.ops.map Opr.d) :: (r.p.d ++ [.v (.string r.n), .v (.string r.v)])
mutual
def Stm.d : Stm → List D
  | .mk k at_ n t p rv op th el arms => .v (.int .i64 k) :: .v (.int .i64 at_) :: .v (.string n) :: (t.d ++ (p.d ++ (rv.d ++ (op.d ++ [.row 65 21 (Stm.ds th), .row 65 21 (Stm.ds el), .row 77 3 (Arm.ds arms)]))))
def Stm.ds : List Stm → List (List D)
  | [] => []
  | s :: l => s.d :: Stm.ds l
def Arm.d : Arm → List D
  | .mk v b l => [.v (.string v), .v (.string b), .row 65 21 (Stm.ds l)]
def Arm.ds : List Arm → List (List D)
  | [] => []
  | a :: l => a.d :: Arm.ds l
end
def Fnc.d (f : Fnc) : List D := [.v (.string f.n), .row 96 4 (f.ps.map Fld.d), .row 65 21 (Stm.ds f.b), .v (.int .i64 f.at_)]
def Src.d (s : Src) : List D := [.row 41 4 (s.ss.map Str.d), .row 44 3 (s.es.map Enm.d), .row 38 4 (s.fs.map Fnc.d)]
theorem Ty.ds_app (a b : List Ty) : Ty.ds (a ++ b) = Ty.ds a ++ Ty.ds b := by
  induction a with
  | nil => simp [Ty.ds]
  | cons x a ih => simp [Ty.ds, ih]
theorem Stm.ds_app (a b : List Stm) : Stm.ds (a ++ b) = Stm.ds a ++ Stm.ds b := by
  induction a with
  | nil => simp [Stm.ds]
  | cons x a ih => simp [Stm.ds, ih]
theorem Arm.ds_app (a b : List Arm) : Arm.ds (a ++ b) = Arm.ds a ++ Arm.ds b := by
  induction a with
  | nil => simp [Arm.ds]
  | cons x a ih => simp [Arm.ds, ih]
theorem Stm.ds_length (a : List Stm) : (Stm.ds a).length = a.length := by
  induction a with
  | nil => simp [Stm.ds]
  | cons x a ih => simp [Stm.ds, ih]
theorem Arm.ds_length (a : List Arm) : (Arm.ds a).length = a.length := by
  induction a with
  | nil => simp [Arm.ds]
  | cons x a ih => simp [Arm.ds, ih]

/-! ### The reader -/
/-- Tokens stand at block T, from o on. -/
def TokAt (W : World) (T o : Nat) (ts : List Tk) : Prop := ∀ (i : Nat) (t : Tk), ts[i]? = some t →
  W.cell? ⟨T, o + i * 4, none⟩ = some (.int .i64 t.k) ∧ W.cell? ⟨T, o + i * 4 + 1, none⟩ = some (.string t.s) ∧ W.cell? ⟨T, o + i * 4 + 2, none⟩ = some (.int .i64 t.n) ∧ W.cell? ⟨T, o + i * 4 + 3, none⟩ = some (.int .i64 t.at_)
/-- Tokens that a text has: the last one, and it alone, is the end. -/
structure Toks (ts : List Tk) : Prop where
  ne : ts ≠ []
  fin : ∀ (i : Nat) (t : Tk), ts[i]? = some t → t.k ≠ 0 → i + 1 < ts.length
  num : ∀ t ∈ ts, -9223372036854775807 ≤ t.n ∧ t.n ≤ 9223372036854775807
  len : ts.length ≤ 100000
  txt : ∀ t ∈ ts, t.s.size ≤ 1000000
theorem Toks.tail {ts : List Tk} (h : Toks ts) (hk : (hd ts).k ≠ 0) : Toks ts.tail := by
  obtain ⟨h1, h2, h3, h4, h5⟩ := h
  cases ts with
  | nil => exact absurd rfl h1
  | cons t r =>
    have := h2 0 t rfl hk
    refine ⟨by intro e; subst e; simp at this, fun i x hx hx0 => ?_, fun x hx => h3 x (by simp at hx; exact List.mem_cons_of_mem _ hx), by simp at h4 ⊢; omega, fun x hx => h5 x (by simp at hx; exact List.mem_cons_of_mem _ hx)⟩
    have := h2 (i + 1) x (by simpa using hx) hx0
    simp at this ⊢
    omega
/-- The reader at block R has these tokens left. -/
structure Rdr (W : World) (R : Nat) (ts : List Tk) : Prop where
  ex : ∃ T o c, W.heap[R]? = some (.cells #[.slice (some ⟨T, o, none⟩) ts.length c] 71 (0, 0)) ∧ T < R ∧ ts.length ≤ c ∧ TokAt W T o ts
  ok : Toks ts
section
variable {W W' : World} {R : Nat} {ts : List Tk}
theorem Rdr.lt (h : Rdr W R ts) : R < W.heap.size := by
  obtain ⟨T, o, c, h, _⟩ := h.ex
  exact blk_lt h
theorem Rdr.below (h : Rdr W R ts) {B : Nat} (hb : Below B W W') (hB : R < B) : Rdr W' R ts := by
  have hlt := h.lt
  obtain ⟨⟨T, o, c, h1, h2, h3, h4⟩, h5⟩ := h
  refine ⟨⟨T, o, c, (hb.block R hB).trans h1, h2, h3, fun i t ht => ?_⟩, h5⟩
  have hc : ∀ j, W'.cell? ⟨T, j, none⟩ = W.cell? ⟨T, j, none⟩ := fun j => hb.cell (p := ⟨T, j, none⟩) (by show T < B; omega)
  rw [hc, hc, hc, hc]
  exact h4 i t ht
theorem Rdr.far (h : Rdr W R ts) {p : Addr} (hp : R < p.block) (u : Value) : Rdr (W.setCell p u) R ts := h.below (B := R + 1) ((Below.refl (R + 1) W).setCell (by omega) u) (by omega)
end
/-- What a method of the reader does: it hands back what is read, or stops. -/
def Does {α : Type} (p : Ps α) (Q : World → Value → α → Prop) (W : World) (R : Nat) (ts : List Tk) (e : Ending) (W' : World) : Prop :=
  W.grownBy W' (some R) ∧ ((∃ x ts' v, p ts = .ok (x, ts') ∧ e = .returned v ∧ Q W' v x ∧ Rdr W' R ts' ∧ ts'.length ≤ ts.length) ∨
    (∃ er at_, p ts = .error (er, at_) ∧ e = .panicked [{ v := .iface 73 (.agg #[.int .i64 er, .int .i64 at_]), recovered := false }]))
/-- What is handed back leads to x; all of it is new. -/
def Leads {α : Type} (W : World) (f : α → List D) (W' : World) (v : Value) (x : α) : Prop := ∃ cs : List Value, v = .agg cs.toArray ∧ Rds W' (fun k => W.heap.size ≤ k) cs (f x)
end Go.Proofs.YtjoiflokekebkaaDoor
