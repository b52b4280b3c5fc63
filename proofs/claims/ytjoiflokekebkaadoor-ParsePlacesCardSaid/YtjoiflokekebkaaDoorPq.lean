/- Plain: a reader leaves no more tokens than there were; what takes one leaves less. -/
import Derived.Test.YtjoiflokekebkaaDoorPa
set_option linter.all false
namespace Go.Proofs.YtjoiflokekebkaaDoor

section
variable {α β : Type}
/-- What is left is of the tokens' end. -/
def Le (p : Ps α) : Prop := ∀ (ts : List Tk) (x : α) (ts' : List Tk), p ts = .ok (x, ts') → ts' <:+ ts
def Lt (p : Ps α) : Prop := ∀ (ts : List Tk) (x : α) (ts' : List Tk), p ts = .ok (x, ts') → ts' <:+ ts ∧ ts'.length < ts.length
theorem isW_pos {s : ByteArray} {ts : List Tk} (h : isW s ts = true) : ts.tail.length < ts.length := by
  cases ts with
  | nil => simp [isW, hd] at h
  | cons t r => simp
theorem named_pos {g : Bool} {ts : List Tk} (h : namedB g (hd ts) = true) : ts.tail.length < ts.length := by
  cases ts with
  | nil => simp [namedB, hd] at h
  | cons t r => simp
theorem Le.len {p : Ps α} (h : Le p) {ts : List Tk} {x : α} {ts' : List Tk} (e : p ts = .ok (x, ts')) : ts'.length ≤ ts.length := (h ts x ts' e).length_le
theorem Lt.le {p : Ps α} (h : Lt p) : Le p := fun ts x ts' e => (h ts x ts' e).1
theorem Le.ret (x : α) : Le (Ps.ret x) := fun ts y ts' e => by injection e with e; injection e with _ e; rw [e]; exact List.suffix_refl _
theorem Le.stp (e : Int) : Le (stp e : Ps α) := fun ts y ts' h => by cases h
theorem Lt.stp (e : Int) : Lt (stp e : Ps α) := fun ts y ts' h => by cases h
theorem bd_split {p : Ps α} {f : α → Ps β} {ts ts' : List Tk} {y : β} (h : p.bd f ts = .ok (y, ts')) : ∃ x us, p ts = .ok (x, us) ∧ f x us = .ok (y, ts') := by
  unfold Ps.bd at h
  split at h
  · cases h
  · rename_i x us hx
    exact ⟨x, us, hx, h⟩
theorem Le.bd {p : Ps α} {f : α → Ps β} (hp : Le p) (hf : ∀ x, Le (f x)) : Le (p.bd f) := fun ts y ts' h => by
  obtain ⟨x, us, h1, h2⟩ := bd_split h
  exact (hf x _ _ _ h2).trans (hp _ _ _ h1)
theorem Lt.bd {p : Ps α} {f : α → Ps β} (hp : Lt p) (hf : ∀ x, Le (f x)) : Lt (p.bd f) := fun ts y ts' h => by
  obtain ⟨x, us, h1, h2⟩ := bd_split h
  have h3 := hp _ _ _ h1
  have h4 := hf x _ _ _ h2
  exact ⟨h4.trans h3.1, Nat.lt_of_le_of_lt h4.length_le h3.2⟩
theorem Lt.bd2 {p : Ps α} {f : α → Ps β} (hp : Le p) (hf : ∀ x, Lt (f x)) : Lt (p.bd f) := fun ts y ts' h => by
  obtain ⟨x, us, h1, h2⟩ := bd_split h
  have h3 := hp _ _ _ h1
  have h4 := hf x _ _ _ h2
  exact ⟨h4.1.trans h3, Nat.lt_of_lt_of_le h4.2 h3.length_le⟩
theorem suf_tail {ts us : List Tk} (h : us <:+ ts.tail) (hp : ts.tail.length < ts.length) : us <:+ ts ∧ us.length < ts.length := ⟨h.trans (List.tail_suffix ts), Nat.lt_of_le_of_lt h.length_le hp⟩
theorem Le.optE {s : ByteArray} {p q : Ps α} (hp : Le p) (hq : Le q) : Le (optE s p q) := fun ts y ts' h => by
  unfold Go.Proofs.YtjoiflokekebkaaDoor.optE at h
  split at h
  · rename_i hw
    exact (suf_tail (hp _ _ _ h) (isW_pos hw)).1
  · exact hq _ _ _ h
theorem Lt.optE {s : ByteArray} {p q : Ps α} (hp : Le p) (hq : Lt q) : Lt (optE s p q) := fun ts y ts' h => by
  unfold Go.Proofs.YtjoiflokekebkaaDoor.optE at h
  split at h
  · rename_i hw
    exact suf_tail (hp _ _ _ h) (isW_pos hw)
  · exact hq _ _ _ h
theorem Lt.must (s : ByteArray) : Lt (must s) := fun ts y ts' h => by
  unfold Go.Proofs.YtjoiflokekebkaaDoor.must at h
  split at h
  · rename_i hw
    injection h with h
    injection h with _ h
    rw [← h]
    exact suf_tail (List.suffix_refl _) (isW_pos hw)
  · cases h
theorem Lt.name (g : Bool) : Lt (name g) := fun ts y ts' h => by
  unfold Go.Proofs.YtjoiflokekebkaaDoor.name at h
  split at h
  · rename_i hw
    injection h with h
    injection h with _ h
    rw [← h]
    exact suf_tail (List.suffix_refl _) (named_pos hw)
  · cases h
theorem Le.more {fin : ByteArray} {read : Ps α} (hr : Le read) : ∀ n, Le (moreP fin read n)
  | 0 => Le.stp _
  | n + 1 => Le.optE (Le.bd hr fun _ => Le.bd (Le.more hr n) fun _ => Le.ret _) (Le.bd (Lt.must _).le fun _ => Le.ret _)
theorem Le.at_ {f : List Tk → Ps α} (h : ∀ us, Le (f us)) : Le (fun ts => f ts ts) := fun ts y ts' e => h ts ts y ts' e
theorem Lt.at_ {f : List Tk → Ps α} (h : ∀ us, Lt (f us)) : Lt (fun ts => f ts ts) := fun ts y ts' e => h ts ts y ts' e
theorem Lt.more {fin : ByteArray} {read : Ps α} (hr : Le read) : ∀ n, Lt (moreP fin read n)
  | 0 => Lt.stp _
  | n + 1 => Lt.optE (Le.bd hr fun _ => Le.bd (Le.more hr n) fun _ => Le.ret _) (Lt.bd (Lt.must _) fun _ => Le.ret _)
theorem Lt.list {fin : ByteArray} {read : Ps α} (hr : Le read) : Lt (listP fin read) :=
  Lt.optE (Le.ret _) (Lt.bd2 hr fun _ => Lt.at_ (f := fun us => (moreP fin read (us.length + 1)).bd _) fun us => Lt.bd (Lt.more hr _) fun _ => Le.ret _)
theorem two_pos {ts : List Tk} (h : (hd ts).k = 2) : ts.tail.length < ts.length := by
  cases ts with
  | nil => simp [hd] at h
  | cons t r => simp
theorem Le.numE {p : Int → Ps α} {q : Ps α} (hp : ∀ n, Le (p n)) (hq : Le q) : Le (numE p q) := fun ts y ts' h => by
  unfold Go.Proofs.YtjoiflokekebkaaDoor.numE at h
  split at h
  · rename_i hk
    exact (suf_tail (hp _ _ _ _ h) (two_pos hk)).1
  · exact hq _ _ _ h
theorem Lt.numE {p : Int → Ps α} {q : Ps α} (hp : ∀ n, Le (p n)) (hq : Lt q) : Lt (numE p q) := fun ts y ts' h => by
  unfold Go.Proofs.YtjoiflokekebkaaDoor.numE at h
  split at h
  · rename_i hk
    exact suf_tail (hp _ _ _ _ h) (two_pos hk)
  · exact hq _ _ _ h
theorem Le.greatE {p q : Ps α} (hp : Le p) (hq : Le q) : Le (greatE p q) := fun ts y ts' h => by
  unfold Go.Proofs.YtjoiflokekebkaaDoor.greatE at h
  split at h
  · exact hp _ _ _ h
  · exact hq _ _ _ h
theorem Lt.greatE {p q : Ps α} (hp : Lt p) (hq : Lt q) : Lt (greatE p q) := fun ts y ts' h => by
  unfold Go.Proofs.YtjoiflokekebkaaDoor.greatE at h
  split at h
  · exact hp _ _ _ h
  · exact hq _ _ _ h
end
theorem Lt.ty : ∀ k, Lt (tyP k)
  | 0 => Lt.stp _
  | k + 1 => Lt.optE (Le.ret _) (Lt.optE (Le.bd (Lt.name _).le fun _ => Le.ret _) (Lt.optE (Le.bd (Lt.ty k).le fun _ => Le.ret _)
      (Lt.optE (Le.optE (Le.bd (Lt.ty k).le fun _ => Le.ret _) (Le.bd (Lt.ty k).le fun _ => Le.ret _)) (Lt.bd (Lt.name _) fun _ => Le.ret _))))
theorem Lt.field : Lt fieldP := Lt.bd (Lt.name _) fun _ => Le.bd (Lt.must _).le fun _ => Le.bd (Lt.ty _).le fun _ => Le.ret _
theorem Lt.variant : Lt variantP := Lt.bd (Lt.name _) fun _ => Le.optE (Le.bd (Lt.ty _).le fun _ => Le.bd (Lt.must _).le fun _ => Le.ret _) (Le.ret _)
theorem Le.steps : ∀ n, Le (stepsP n)
  | 0 => Le.stp _
  | n + 1 => Le.optE (Le.optE (Le.bd (Le.steps n) fun _ => Le.ret _) (Le.bd (Lt.name _).le fun _ => Le.bd (Le.steps n) fun _ => Le.ret _)) (Le.ret _)
theorem Lt.place : Lt placeP := Lt.bd (Lt.name _) fun _ => Le.at_ (f := fun us => (stepsP (us.length + 1)).bd _) fun us => Le.bd (Le.steps _) fun _ => Le.ret _
theorem Lt.bare : Lt bareP := Lt.bd (Lt.name _) fun _ => Le.ret _
theorem Lt.oper : Lt operP := Lt.optE (Le.numE (fun _ => Le.ret _) (Le.stp _)) (Lt.numE (fun _ => Le.ret _) (Lt.bd Lt.place fun _ => Le.ret _))
theorem Lt.args : Lt argsP := Lt.bd (Lt.must _) fun _ => (Lt.list Lt.oper.le).le
theorem Lt.made : Lt madeP := Lt.bd (Lt.name _) fun _ => Le.optE (Le.bd (Lt.name _).le fun _ => Le.optE (Le.bd Lt.oper.le fun _ => Le.bd (Lt.must _).le fun _ => Le.ret _) (Le.ret _)) (Le.bd Lt.args.le fun _ => Le.ret _)
theorem Le.sign (a : Opr) (k : Int) : Le (signE a k) := Le.bd Lt.oper.le fun _ => Le.ret _
theorem Lt.set : Lt setP :=
  Lt.optE (Le.optE (Le.bd Lt.place.le fun _ => Le.ret _) (Le.bd Lt.place.le fun _ => Le.ret _)) <| Lt.optE (Le.bd Lt.oper.le fun _ => Le.ret _) <| Lt.optE (Le.bd Lt.oper.le fun _ => Le.ret _) <|
  Lt.optE (Le.bd Lt.bare.le fun _ => Le.ret _) <| Lt.optE (Le.bd Lt.bare.le fun _ => Le.ret _) <| Lt.optE (Le.bd Lt.bare.le fun _ => Le.ret _) <|
  Lt.optE (Le.bd (Lt.name _).le fun _ => Le.bd Lt.args.le fun _ => Le.ret _) <| Lt.greatE Lt.made <|
  Lt.bd Lt.oper fun _ => Le.optE (Le.sign _ _) <| Le.optE (Le.sign _ _) <| Le.optE (Le.sign _ _) <| Le.optE (Le.sign _ _) <| Le.optE (Le.sign _ _) (Le.ret _)
section
variable {blk : Ps (List Stm)} (hb : Le blk)
include hb
theorem Lt.arm : Lt (armP blk) := Lt.bd (Lt.name _) fun _ => Le.optE (Le.bd (Lt.name _).le fun _ => Le.bd (Lt.must _).le fun _ => Le.bd (Lt.must _).le fun _ => Le.bd hb fun _ => Le.ret _) (Le.bd (Lt.must _).le fun _ => Le.bd hb fun _ => Le.ret _)
theorem Le.arms : ∀ n, Le (armsP blk n)
  | 0 => Le.stp _
  | n + 1 => Le.optE (Le.ret _) (Le.bd (Lt.arm hb).le fun _ => Le.bd (Le.arms n) fun _ => Le.ret _)
omit hb in
theorem Lt.simple (a : Int) : Lt (simpleP a) :=
  Lt.optE (Le.bd (Lt.name _).le fun _ => Le.bd (Lt.must _).le fun _ => Le.bd (Lt.ty _).le fun _ => Le.bd (Lt.must _).le fun _ => Le.bd Lt.set.le fun _ => Le.ret _) <|
  Lt.optE (Le.bd Lt.oper.le fun _ => Le.ret _) <| Lt.optE (Le.bd Lt.oper.le fun _ => Le.ret _) <| Lt.optE (Le.bd Lt.oper.le fun _ => Le.ret _) <| Lt.optE (Le.bd Lt.bare.le fun _ => Le.ret _) <|
  Lt.bd Lt.place fun _ => Le.bd (Lt.must _).le fun _ => Le.bd Lt.set.le fun _ => Le.ret _
theorem Lt.stmtQ (a : Int) : Lt (stmtQ blk a) :=
  Lt.optE (Le.bd Lt.oper.le fun _ => Le.bd hb fun _ => Le.optE (Le.bd hb fun _ => Le.ret _) (Le.ret _)) <|
  Lt.optE (Le.bd Lt.oper.le fun _ => Le.bd hb fun _ => Le.ret _) <|
  Lt.optE (Le.bd Lt.bare.le fun _ => Le.bd (Lt.must _).le fun _ => Le.at_ (f := fun us => (armsP blk (us.length + 1)).bd _) fun us => Le.bd (Le.arms hb _) fun _ => Le.ret _) <|
  Lt.bd (Lt.simple _) fun _ => Le.bd (Lt.must _).le fun _ => Le.ret _
theorem Lt.stmt : Lt (stmtP blk) := fun ts x ts' h => Lt.stmtQ hb (hd ts).at_ ts x ts' h
theorem Le.stmts : ∀ n, Le (stmtsP blk n)
  | 0 => Le.stp _
  | n + 1 => Le.optE (Le.ret _) (Le.bd (Lt.stmt hb).le fun _ => Le.bd (Le.stmts n) fun _ => Le.ret _)
end
theorem Le.block : ∀ k, Le (blockP k)
  | 0 => fun ts y ts' h => by
    simp only [blockP] at h
    split at h <;> cases h
  | k + 1 => Le.bd (Lt.must _).le fun _ => Le.at_ (f := fun us => stmtsP (blockP k) (us.length + 1)) fun us => Le.stmts (Le.block k) _
theorem Lt.struct (d : Bool) (a : Int) : Lt (structP d a) := Lt.bd (Lt.must _) fun _ => Le.bd (Lt.name _).le fun _ => Le.bd (Lt.must _).le fun _ => Le.bd (Lt.list Lt.field.le).le fun _ => Le.ret _
theorem Lt.enum (a : Int) : Lt (enumP a) := Lt.bd (Lt.name _) fun _ => Le.bd (Lt.must _).le fun _ => Le.bd (Lt.list Lt.variant.le).le fun _ => Le.ret _
theorem Lt.fn (a : Int) : Lt (fnP a) := Lt.bd (Lt.must _) fun _ => Le.bd (Lt.name _).le fun _ => Le.bd (Lt.must _).le fun _ => Le.bd (Lt.list Lt.field.le).le fun _ => Le.bd (Le.block _) fun _ => Le.ret _
theorem Lt.itemQ (s : Src) (a : Int) : Lt (itemQ s a) := Lt.optE (Le.bd (Lt.struct _ _).le fun _ => Le.ret _) fun us y us' h => by
  split at h
  · exact Lt.bd (Lt.struct _ _) (fun _ => Le.ret _) us y us' h
  · exact Lt.optE (Le.bd (Lt.enum _).le fun _ => Le.ret _) (Lt.bd (Lt.fn _) fun _ => Le.ret _) us y us' h
theorem Lt.item (s : Src) : Lt (itemP s) := fun ts x ts' h => Lt.itemQ s (hd ts).at_ ts x ts' h
end Go.Proofs.YtjoiflokekebkaaDoor
