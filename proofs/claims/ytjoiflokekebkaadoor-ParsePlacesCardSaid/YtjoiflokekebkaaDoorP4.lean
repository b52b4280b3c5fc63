/- No error of a text is 0 (plain). -/
import Derived.Test.YtjoiflokekebkaaDoorP2
set_option linter.all false
namespace Go.Proofs.YtjoiflokekebkaaDoor

section
variable {α β : Type}
def Nz (p : Ps α) : Prop := ∀ (ts : List Tk) (e i : Int), p ts = .error (e, i) → e ≠ 0
theorem Nz.ret (x : α) : Nz (Ps.ret x) := fun ts e i h => by cases h
theorem Nz.stp {k : Int} (hk : k ≠ 0) : Nz (stp k : Ps α) := fun ts e i h => by injection h with h; injection h with h _; omega
theorem Nz.must (s : ByteArray) : Nz (must s) := fun ts e i h => by
  unfold Go.Proofs.YtjoiflokekebkaaDoor.must at h
  split at h
  · cases h
  · injection h with h; injection h with h _; omega
theorem Nz.name (g : Bool) : Nz (name g) := fun ts e i h => by
  unfold Go.Proofs.YtjoiflokekebkaaDoor.name at h
  split at h
  · cases h
  · injection h with h; injection h with h _; omega
theorem Nz.bd {p : Ps α} {f : α → Ps β} (hp : Nz p) (hf : ∀ x, Nz (f x)) : Nz (p.bd f) := fun ts e i h => by
  unfold Ps.bd at h
  split at h
  · rename_i e' hx
    injection h with h
    subst h
    exact hp _ _ _ hx
  · exact hf _ _ _ _ h
theorem Nz.optE {s : ByteArray} {p q : Ps α} (hp : Nz p) (hq : Nz q) : Nz (optE s p q) := fun ts e i h => by
  unfold Go.Proofs.YtjoiflokekebkaaDoor.optE at h
  split at h
  · exact hp _ _ _ h
  · exact hq _ _ _ h
theorem Nz.numE {p : Int → Ps α} {q : Ps α} (hp : ∀ n, Nz (p n)) (hq : Nz q) : Nz (numE p q) := fun ts e i h => by
  unfold Go.Proofs.YtjoiflokekebkaaDoor.numE at h
  split at h
  · exact hp _ _ _ _ h
  · exact hq _ _ _ h
theorem Nz.greatE {p q : Ps α} (hp : Nz p) (hq : Nz q) : Nz (greatE p q) := fun ts e i h => by
  unfold Go.Proofs.YtjoiflokekebkaaDoor.greatE at h
  split at h
  · exact hp _ _ _ h
  · exact hq _ _ _ h
theorem Nz.at_ {f : List Tk → Ps α} (h : ∀ us, Nz (f us)) : Nz (fun us => f us us) := fun ts e i h1 => h ts ts e i h1
theorem Nz.more {fin : ByteArray} {p : Ps α} (hp : Nz p) : ∀ n, Nz (moreP fin p n)
  | 0 => Nz.stp (by decide)
  | n + 1 => Nz.optE (Nz.bd hp fun _ => Nz.bd (Nz.more hp n) fun _ => Nz.ret _) (Nz.bd (Nz.must _) fun _ => Nz.ret _)
theorem Nz.list {fin : ByteArray} {p : Ps α} (hp : Nz p) : Nz (listP fin p) :=
  Nz.optE (Nz.ret _) (Nz.bd hp fun x => Nz.at_ (f := fun ts => (moreP fin p (ts.length + 1)).bd fun l => Ps.ret (x :: l)) fun _ => Nz.bd (Nz.more hp _) fun _ => Nz.ret _)
end
theorem Nz.ty : ∀ k, Nz (tyP k)
  | 0 => Nz.stp (by decide)
  | k + 1 => by
    have ih := Nz.ty k
    unfold tyP
    repeat (first | assumption | with_reducible exact Nz.ret _ | with_reducible exact Nz.must _ | with_reducible exact Nz.name _ | with_reducible exact Nz.stp (by decide) | with_reducible refine Nz.bd ?_ ?_ | with_reducible refine Nz.optE ?_ ?_ | with_reducible refine Nz.numE ?_ ?_ | with_reducible refine Nz.greatE ?_ ?_ | with_reducible refine Nz.list ?_ | with_reducible intro _)
theorem Nz.field : Nz fieldP := by
  unfold fieldP
  repeat (first | assumption | with_reducible exact Nz.ret _ | with_reducible exact Nz.must _ | with_reducible exact Nz.name _ | with_reducible exact Nz.stp (by decide) | with_reducible exact Nz.ty _ | with_reducible refine Nz.bd ?_ ?_ | with_reducible refine Nz.optE ?_ ?_ | with_reducible refine Nz.numE ?_ ?_ | with_reducible refine Nz.greatE ?_ ?_ | with_reducible refine Nz.list ?_ | with_reducible intro _)
theorem Nz.variant : Nz variantP := by
  unfold variantP
  repeat (first | assumption | with_reducible exact Nz.ret _ | with_reducible exact Nz.must _ | with_reducible exact Nz.name _ | with_reducible exact Nz.stp (by decide) | with_reducible exact Nz.ty _ | with_reducible exact Nz.field | with_reducible refine Nz.bd ?_ ?_ | with_reducible refine Nz.optE ?_ ?_ | with_reducible refine Nz.numE ?_ ?_ | with_reducible refine Nz.greatE ?_ ?_ | with_reducible refine Nz.list ?_ | with_reducible intro _)
theorem Nz.steps : ∀ n, Nz (stepsP n)
  | 0 => Nz.stp (by decide)
  | n + 1 => by
    have ih := Nz.steps n
    unfold stepsP
    repeat (first | assumption | with_reducible exact Nz.ret _ | with_reducible exact Nz.must _ | with_reducible exact Nz.name _ | with_reducible exact Nz.stp (by decide) | with_reducible exact Nz.ty _ | with_reducible exact Nz.field | with_reducible exact Nz.variant | with_reducible refine Nz.bd ?_ ?_ | with_reducible refine Nz.optE ?_ ?_ | with_reducible refine Nz.numE ?_ ?_ | with_reducible refine Nz.greatE ?_ ?_ | with_reducible refine Nz.list ?_ | with_reducible intro _)
theorem Nz.place : Nz placeP := Nz.bd (Nz.name _) fun n => Nz.at_ (f := fun ts => (stepsP (ts.length + 1)).bd fun l => Ps.ret (⟨n, l⟩ : Plc)) fun _ => Nz.bd (Nz.steps _) fun _ => Nz.ret _
theorem Nz.bare : Nz bareP := by
  unfold bareP
  repeat (first | assumption | with_reducible exact Nz.ret _ | with_reducible exact Nz.must _ | with_reducible exact Nz.name _ | with_reducible exact Nz.stp (by decide) | with_reducible exact Nz.ty _ | with_reducible exact Nz.field | with_reducible exact Nz.variant | with_reducible exact Nz.place | with_reducible refine Nz.bd ?_ ?_ | with_reducible refine Nz.optE ?_ ?_ | with_reducible refine Nz.numE ?_ ?_ | with_reducible refine Nz.greatE ?_ ?_ | with_reducible refine Nz.list ?_ | with_reducible intro _)
theorem Nz.oper : Nz operP := by
  unfold operP
  repeat (first | assumption | with_reducible exact Nz.ret _ | with_reducible exact Nz.must _ | with_reducible exact Nz.name _ | with_reducible exact Nz.stp (by decide) | with_reducible exact Nz.ty _ | with_reducible exact Nz.field | with_reducible exact Nz.variant | with_reducible exact Nz.place | with_reducible exact Nz.bare | with_reducible refine Nz.bd ?_ ?_ | with_reducible refine Nz.optE ?_ ?_ | with_reducible refine Nz.numE ?_ ?_ | with_reducible refine Nz.greatE ?_ ?_ | with_reducible refine Nz.list ?_ | with_reducible intro _)
theorem Nz.args : Nz argsP := by
  unfold argsP
  repeat (first | assumption | with_reducible exact Nz.ret _ | with_reducible exact Nz.must _ | with_reducible exact Nz.name _ | with_reducible exact Nz.stp (by decide) | with_reducible exact Nz.ty _ | with_reducible exact Nz.field | with_reducible exact Nz.variant | with_reducible exact Nz.place | with_reducible exact Nz.bare | with_reducible exact Nz.oper | with_reducible refine Nz.bd ?_ ?_ | with_reducible refine Nz.optE ?_ ?_ | with_reducible refine Nz.numE ?_ ?_ | with_reducible refine Nz.greatE ?_ ?_ | with_reducible refine Nz.list ?_ | with_reducible intro _)
theorem Nz.made : Nz madeP := by
  unfold madeP
  repeat (first | assumption | with_reducible exact Nz.ret _ | with_reducible exact Nz.must _ | with_reducible exact Nz.name _ | with_reducible exact Nz.stp (by decide) | with_reducible exact Nz.ty _ | with_reducible exact Nz.field | with_reducible exact Nz.variant | with_reducible exact Nz.place | with_reducible exact Nz.bare | with_reducible exact Nz.oper | with_reducible exact Nz.args | with_reducible refine Nz.bd ?_ ?_ | with_reducible refine Nz.optE ?_ ?_ | with_reducible refine Nz.numE ?_ ?_ | with_reducible refine Nz.greatE ?_ ?_ | with_reducible refine Nz.list ?_ | with_reducible intro _)
theorem Nz.signE (a : Opr) (k : Int) : Nz (signE a k) := Nz.bd Nz.oper fun _ => Nz.ret _
theorem Nz.set : Nz setP := by
  unfold setP
  repeat (first | assumption | with_reducible exact Nz.ret _ | with_reducible exact Nz.must _ | with_reducible exact Nz.name _ | with_reducible exact Nz.stp (by decide) | with_reducible exact Nz.ty _ | with_reducible exact Nz.field | with_reducible exact Nz.variant | with_reducible exact Nz.place | with_reducible exact Nz.bare | with_reducible exact Nz.oper | with_reducible exact Nz.args | with_reducible exact Nz.made | with_reducible exact Nz.signE _ _ | with_reducible refine Nz.bd ?_ ?_ | with_reducible refine Nz.optE ?_ ?_ | with_reducible refine Nz.numE ?_ ?_ | with_reducible refine Nz.greatE ?_ ?_ | with_reducible refine Nz.list ?_ | with_reducible intro _)
theorem Nz.simple (a : Int) : Nz (simpleP a) := by
  unfold simpleP
  repeat (first | assumption | with_reducible exact Nz.ret _ | with_reducible exact Nz.must _ | with_reducible exact Nz.name _ | with_reducible exact Nz.stp (by decide) | with_reducible exact Nz.ty _ | with_reducible exact Nz.field | with_reducible exact Nz.variant | with_reducible exact Nz.place | with_reducible exact Nz.bare | with_reducible exact Nz.oper | with_reducible exact Nz.args | with_reducible exact Nz.made | with_reducible exact Nz.signE _ _ | with_reducible exact Nz.set | with_reducible refine Nz.bd ?_ ?_ | with_reducible refine Nz.optE ?_ ?_ | with_reducible refine Nz.numE ?_ ?_ | with_reducible refine Nz.greatE ?_ ?_ | with_reducible refine Nz.list ?_ | with_reducible intro _)
section
variable {blk : Ps (List Stm)} (hb : Nz blk)
include hb
theorem Nz.arm : Nz (armP blk) := by
  unfold armP
  repeat (first | assumption | with_reducible exact Nz.ret _ | with_reducible exact Nz.must _ | with_reducible exact Nz.name _ | with_reducible exact Nz.stp (by decide) | with_reducible exact Nz.ty _ | with_reducible exact Nz.field | with_reducible exact Nz.variant | with_reducible exact Nz.place | with_reducible exact Nz.bare | with_reducible exact Nz.oper | with_reducible exact Nz.args | with_reducible exact Nz.made | with_reducible exact Nz.signE _ _ | with_reducible exact Nz.set | with_reducible exact Nz.simple _ | with_reducible refine Nz.bd ?_ ?_ | with_reducible refine Nz.optE ?_ ?_ | with_reducible refine Nz.numE ?_ ?_ | with_reducible refine Nz.greatE ?_ ?_ | with_reducible refine Nz.list ?_ | with_reducible intro _)
theorem Nz.arms : ∀ n, Nz (armsP blk n)
  | 0 => Nz.stp (by decide)
  | n + 1 => Nz.optE (Nz.ret _) (Nz.bd (Nz.arm hb) fun _ => Nz.bd (Nz.arms n) fun _ => Nz.ret _)
theorem Nz.stmtQ (a : Int) : Nz (stmtQ blk a) :=
  Nz.optE (Nz.bd Nz.oper fun _ => Nz.bd hb fun _ => Nz.optE (Nz.bd hb fun _ => Nz.ret _) (Nz.ret _)) <|
  Nz.optE (Nz.bd Nz.oper fun _ => Nz.bd hb fun _ => Nz.ret _) <|
  Nz.optE (Nz.bd Nz.bare fun _ => Nz.bd (Nz.must _) fun _ => Nz.at_ (f := fun us => (armsP blk (us.length + 1)).bd _) fun us => Nz.bd (Nz.arms hb _) fun _ => Nz.ret _) <|
  Nz.bd (Nz.simple _) fun _ => Nz.bd (Nz.must _) fun _ => Nz.ret _
theorem Nz.stmt : Nz (stmtP blk) := fun ts e i h => Nz.stmtQ hb (hd ts).at_ ts e i h
theorem Nz.stmts : ∀ n, Nz (stmtsP blk n)
  | 0 => Nz.stp (by decide)
  | n + 1 => Nz.optE (Nz.ret _) (Nz.bd (Nz.stmt hb) fun _ => Nz.bd (Nz.stmts n) fun _ => Nz.ret _)
end
theorem Nz.block : ∀ k, Nz (blockP k)
  | 0 => fun ts e i h => by
    simp only [blockP] at h
    split at h <;> (injection h with h; injection h with h _; omega)
  | k + 1 => Nz.bd (Nz.must _) fun _ => Nz.at_ (f := fun us => stmtsP (blockP k) (us.length + 1)) fun us => Nz.stmts (Nz.block k) _
theorem Nz.struct (d : Bool) (a : Int) : Nz (structP d a) := by
  unfold structP
  repeat (first | assumption | with_reducible exact Nz.ret _ | with_reducible exact Nz.must _ | with_reducible exact Nz.name _ | with_reducible exact Nz.stp (by decide) | with_reducible exact Nz.ty _ | with_reducible exact Nz.field | with_reducible exact Nz.variant | with_reducible exact Nz.place | with_reducible exact Nz.bare | with_reducible exact Nz.oper | with_reducible exact Nz.args | with_reducible exact Nz.made | with_reducible exact Nz.signE _ _ | with_reducible exact Nz.set | with_reducible exact Nz.simple _ | with_reducible exact Nz.block _ | with_reducible refine Nz.bd ?_ ?_ | with_reducible refine Nz.optE ?_ ?_ | with_reducible refine Nz.numE ?_ ?_ | with_reducible refine Nz.greatE ?_ ?_ | with_reducible refine Nz.list ?_ | with_reducible intro _)
theorem Nz.enum (a : Int) : Nz (enumP a) := by
  unfold enumP
  repeat (first | assumption | with_reducible exact Nz.ret _ | with_reducible exact Nz.must _ | with_reducible exact Nz.name _ | with_reducible exact Nz.stp (by decide) | with_reducible exact Nz.ty _ | with_reducible exact Nz.field | with_reducible exact Nz.variant | with_reducible exact Nz.place | with_reducible exact Nz.bare | with_reducible exact Nz.oper | with_reducible exact Nz.args | with_reducible exact Nz.made | with_reducible exact Nz.signE _ _ | with_reducible exact Nz.set | with_reducible exact Nz.simple _ | with_reducible exact Nz.block _ | with_reducible refine Nz.bd ?_ ?_ | with_reducible refine Nz.optE ?_ ?_ | with_reducible refine Nz.numE ?_ ?_ | with_reducible refine Nz.greatE ?_ ?_ | with_reducible refine Nz.list ?_ | with_reducible intro _)
theorem Nz.fn (a : Int) : Nz (fnP a) := by
  unfold fnP
  repeat (first | assumption | with_reducible exact Nz.ret _ | with_reducible exact Nz.must _ | with_reducible exact Nz.name _ | with_reducible exact Nz.stp (by decide) | with_reducible exact Nz.ty _ | with_reducible exact Nz.field | with_reducible exact Nz.variant | with_reducible exact Nz.place | with_reducible exact Nz.bare | with_reducible exact Nz.oper | with_reducible exact Nz.args | with_reducible exact Nz.made | with_reducible exact Nz.signE _ _ | with_reducible exact Nz.set | with_reducible exact Nz.simple _ | with_reducible exact Nz.block _ | with_reducible refine Nz.bd ?_ ?_ | with_reducible refine Nz.optE ?_ ?_ | with_reducible refine Nz.numE ?_ ?_ | with_reducible refine Nz.greatE ?_ ?_ | with_reducible refine Nz.list ?_ | with_reducible intro _)
theorem Nz.itemQ (s : Src) (a : Int) : Nz (itemQ s a) := Nz.optE (Nz.bd (Nz.struct _ _) fun _ => Nz.ret _) fun us e i h => by
  split at h
  · exact Nz.bd (Nz.struct _ _) (fun _ => Nz.ret _) us e i h
  · exact Nz.optE (Nz.bd (Nz.enum _) fun _ => Nz.ret _) (Nz.bd (Nz.fn _) fun _ => Nz.ret _) us e i h
theorem Nz.item (s : Src) : Nz (itemP s) := fun ts e i h => Nz.itemQ s (hd ts).at_ ts e i h
theorem Nz.items : ∀ (n : Nat) (s : Src), Nz (itemsP n s)
  | 0, _ => Nz.stp (by decide)
  | n + 1, s => fun ts e i h => by
    simp only [itemsP] at h
    split at h
    · cases h
    · exact Nz.bd (Nz.item s) (fun x => Nz.items n x) ts e i h
theorem parseB_err {s : ByteArray} {e i : Int} (h : parseB s = .error (e, i)) : e ≠ 0 := by
  unfold parseB at h
  split at h
  · rename_i e' hl
    injection h with h
    injection h with h _
    rw [← h]
    exact lexB_err (e := e'.1) (i := e'.2) hl
  · split at h
    · rename_i e' hx
      injection h with h
      subst h
      exact Nz.items _ _ _ _ _ hx
    · cases h
end Go.Proofs.YtjoiflokekebkaaDoor
