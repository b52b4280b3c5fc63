/- Plain: a text that is cut off ahead of its last token. -/
import Derived.Test.YtjoiflokekebkaaDoorPq
set_option linter.all false
namespace Go.Proofs.YtjoiflokekebkaaDoor

theorem more_fuel {α : Type} {fin : ByteArray} {read : Ps α} (hr : Le read) : ∀ (n m : Nat) (ts : List Tk), ts.length < n → ts.length < m → moreP fin read n ts = moreP fin read m ts
  | 0, _, _, h, _ => by omega
  | n + 1, 0, _, _, h => by omega
  | n + 1, m + 1, ts, h1, h2 => by
    simp only [moreP, optE]
    split
    · rename_i hw
      have hp := isW_pos hw
      unfold Ps.bd
      cases hx : read ts.tail with
      | error e => rfl
      | ok q =>
        obtain ⟨x, us⟩ := q
        have := hr.len hx
        simp only
        rw [more_fuel hr n m us (by omega) (by omega)]
    · rfl
theorem steps_fuel : ∀ (n m : Nat) (ts : List Tk), ts.length < n → ts.length < m → stepsP n ts = stepsP m ts
  | 0, _, _, h, _ => by omega
  | n + 1, 0, _, _, h => by omega
  | n + 1, m + 1, ts, h1, h2 => by
    simp only [stepsP, optE]
    split
    · rename_i hw
      have hp := isW_pos hw
      split
      · rename_i hw2
        have hp2 := isW_pos hw2
        unfold Ps.bd
        rw [steps_fuel n m _ (by omega) (by omega)]
      · unfold Ps.bd
        cases hx : name false ts.tail with
        | error e => rfl
        | ok q =>
          obtain ⟨x, us⟩ := q
          have := (Lt.name false).le.len hx
          simp only
          rw [steps_fuel n m us (by omega) (by omega)]
    · rfl
section
variable {blk : Ps (List Stm)} (hb : Le blk)
include hb
theorem arms_fuel : ∀ (n m : Nat) (ts : List Tk), ts.length < n → ts.length < m → armsP blk n ts = armsP blk m ts
  | 0, _, _, h, _ => by omega
  | n + 1, 0, _, _, h => by omega
  | n + 1, m + 1, ts, h1, h2 => by
    simp only [armsP, optE]
    split
    · rfl
    · unfold Ps.bd
      cases hx : armP blk ts with
      | error e => rfl
      | ok q =>
        obtain ⟨x, us⟩ := q
        have := ((Lt.arm hb) _ _ _ hx).2
        simp only
        rw [arms_fuel n m us (by omega) (by omega)]
theorem stmts_fuel : ∀ (n m : Nat) (ts : List Tk), ts.length < n → ts.length < m → stmtsP blk n ts = stmtsP blk m ts
  | 0, _, _, h, _ => by omega
  | n + 1, 0, _, _, h => by omega
  | n + 1, m + 1, ts, h1, h2 => by
    simp only [stmtsP, optE]
    split
    · rfl
    · unfold Ps.bd
      cases hx : stmtP blk ts with
      | error e => rfl
      | ok q =>
        obtain ⟨x, us⟩ := q
        have := ((Lt.stmt hb) _ _ _ hx).2
        simp only
        rw [stmts_fuel n m us (by omega) (by omega)]
end
theorem items_fuel : ∀ (n m : Nat) (s : Src) (ts : List Tk), ts.length < n → ts.length < m → itemsP n s ts = itemsP m s ts
  | 0, _, _, _, h, _ => by omega
  | n + 1, 0, _, _, _, h => by omega
  | n + 1, m + 1, s, ts, h1, h2 => by
    simp only [itemsP]
    split
    · rfl
    · unfold Ps.bd
      cases hx : itemP s ts with
      | error e => rfl
      | ok q =>
        obtain ⟨x, us⟩ := q
        have := ((Lt.item s) _ _ _ hx).2
        simp only
        rw [items_fuel n m x us (by omega) (by omega)]

def brace : ByteArray := (⟨#[125]⟩ : ByteArray)
/-- A closing brace. -/
def Brace (t : Tk) : Prop := t.k = 3 ∧ t.s = brace
structure Cut {α : Type} (p : Ps α) : Prop where
  go : ∀ (pre : List Tk) (t z z' : Tk) (v : α) (r : List Tk), Brace t → z.k = 0 → z'.k = 0 → p (pre ++ [t, z]) = .ok (v, r) →
    (∃ pre2, r = pre2 ++ [t, z] ∧ p (pre ++ [z']) = .ok (v, pre2 ++ [z'])) ∨ (r = [z] ∧ p (pre ++ [z']) = .error (60, z'.at_))
  fin : ∀ (z : Tk) (v : α) (r : List Tk), z.k = 0 → p [z] = .ok (v, r) → r = [z]
/-- It does not stand where a text ends. -/
def Bad {α : Type} (p : Ps α) : Prop := ∀ z : Tk, z.k = 0 → p [z] = .error (60, z.at_)
theorem isW_end {s : ByteArray} {z : Tk} (hz : z.k = 0) (r : List Tk) : isW s (z :: r) = false := by simp [isW, hd, hz]
theorem named_end {g : Bool} {z : Tk} (hz : z.k = 0) (r : List Tk) : namedB g (hd (z :: r)) = false := by simp [namedB, hd, hz]
theorem hd_app {a : Tk} (pre : List Tk) (r : List Tk) : hd (a :: pre ++ r) = a := rfl
theorem isW_app (s : ByteArray) (a : Tk) (pre r r' : List Tk) : isW s (a :: pre ++ r) = isW s (a :: pre ++ r') := rfl
section
variable {α β : Type}
theorem Cut.ret (x : α) : Cut (Ps.ret x) :=
  ⟨fun pre t z z' v r _ _ _ h => by injection h with h; injection h with h1 h2; subst h1 h2; exact .inl ⟨pre, rfl, rfl⟩, fun z v r _ h => by injection h with h; injection h with _ h; exact h.symm⟩
theorem Cut.stp (e : Int) : Cut (stp e : Ps α) := ⟨fun _ _ _ _ _ _ _ _ _ h => by (cases h), fun _ _ _ _ h => by (cases h)⟩
theorem Cut.bd {p : Ps α} {f : α → Ps β} (hp : Cut p) (hf : ∀ x, Cut (f x)) : Cut (p.bd f) := by
  refine ⟨fun pre t z z' v r ht hz hz' h => ?_, fun z v r hz h => ?_⟩
  · obtain ⟨x, us, h1, h2⟩ := bd_split h
    rcases hp.go pre t z z' x us ht hz hz' h1 with ⟨pre2, rfl, h3⟩ | ⟨rfl, h3⟩
    · rcases (hf x).go pre2 t z z' v r ht hz hz' h2 with ⟨pre3, h4, h5⟩ | ⟨h4, h5⟩
      · exact .inl ⟨pre3, h4, by rw [Ps.bd_ok h3]; exact h5⟩
      · exact .inr ⟨h4, by rw [Ps.bd_ok h3]; exact h5⟩
    · exact .inr ⟨(hf x).fin z v r hz h2, Ps.bd_err h3⟩
  · obtain ⟨x, us, h1, h2⟩ := bd_split h
    rw [hp.fin z x us hz h1] at h2
    exact (hf x).fin z v r hz h2
theorem Bad.bd {p : Ps α} {f : α → Ps β} (hp : Bad p) : Bad (p.bd f) := fun z hz => Ps.bd_err (hp z hz)
theorem Bad.must (s : ByteArray) : Bad (must s) := fun z hz => by unfold Go.Proofs.YtjoiflokekebkaaDoor.must; rw [if_neg (by rw [isW_end hz]; decide)]; rfl
theorem Bad.name (g : Bool) : Bad (name g) := fun z hz => by unfold Go.Proofs.YtjoiflokekebkaaDoor.name; rw [if_neg (by rw [named_end hz]; decide)]; rfl
theorem Bad.stp : Bad (stp 60 : Ps α) := fun z hz => rfl
theorem Bad.optE {s : ByteArray} {p q : Ps α} (hq : Bad q) : Bad (optE s p q) := fun z hz => by rw [optE_f (isW_end hz [])]; exact hq z hz
theorem Bad.numE {p : Int → Ps α} {q : Ps α} (hq : Bad q) : Bad (numE p q) := fun z hz => by unfold Go.Proofs.YtjoiflokekebkaaDoor.numE; rw [if_neg (by simp [hd, hz])]; exact hq z hz
theorem Bad.greatE {p q : Ps α} (hq : Bad q) : Bad (greatE p q) := fun z hz => by unfold Go.Proofs.YtjoiflokekebkaaDoor.greatE; rw [if_neg (by rw [named_end hz]; decide)]; exact hq z hz
theorem Bad.at_ {f : List Tk → Ps α} (h : ∀ us, Bad (f us)) : Bad (fun ts => f ts ts) := fun z hz => h [z] z hz
/-- A word that is no closing brace: it is there in both, or in none. -/
theorem Cut.optE {s : ByteArray} {p q : Ps α} (hs : (brace.toList == s.toList) = false) (hp : Cut p) (hq : Cut q) : Cut (optE s p q) := by
  refine ⟨fun pre t z z' v r ht hz hz' h => ?_, fun z v r hz h => ?_⟩
  · cases pre with
    | nil =>
      have hw : isW s [t, z] = false := by simp [isW, hd, ht.1, ht.2, hs]
      rw [List.nil_append, optE_f hw] at h
      rw [List.nil_append, optE_f (isW_end hz' [])]
      exact hq.go [] t z z' v r ht hz hz' h
    | cons a pre =>
      cases hw : isW s (a :: pre ++ [t, z]) with
      | false => rw [optE_f hw] at h; rw [optE_f (by rw [← hw]; rfl)]; exact hq.go (a :: pre) t z z' v r ht hz hz' h
      | true => rw [optE_t hw] at h; rw [optE_t (by rw [← hw]; rfl)]; exact hp.go pre t z z' v r ht hz hz' h
  · rw [optE_f (isW_end hz [])] at h
    exact hq.fin z v r hz h
/-- A closing brace ends it; else something must stand there. -/
theorem Cut.optB {x : α} {q : Ps α} (hq : Cut q) (hb : Bad q) : Cut (Go.Proofs.YtjoiflokekebkaaDoor.optE brace (Ps.ret x) q) := by
  refine ⟨fun pre t z z' v r ht hz hz' h => ?_, fun z v r hz h => ?_⟩
  · cases pre with
    | nil =>
      have hw : isW brace [t, z] = true := by simp [isW, hd, ht.1, ht.2]
      rw [List.nil_append, optE_t hw] at h
      injection h with h
      injection h with _ h
      exact .inr ⟨h.symm, by rw [List.nil_append, optE_f (isW_end hz' [])]; exact hb z' hz'⟩
    | cons a pre =>
      cases hw : isW brace (a :: pre ++ [t, z]) with
      | false => rw [optE_f hw] at h; rw [optE_f (by rw [← hw]; rfl)]; exact hq.go (a :: pre) t z z' v r ht hz hz' h
      | true => rw [optE_t hw] at h; rw [optE_t (by rw [← hw]; rfl)]; exact (Cut.ret x).go pre t z z' v r ht hz hz' h
  · rw [optE_f (isW_end hz [])] at h
    exact hq.fin z v r hz h
theorem Cut.must (s : ByteArray) : Cut (must s) := by
  refine ⟨fun pre t z z' v r ht hz hz' h => ?_, fun z v r hz h => ?_⟩
  · cases pre with
    | nil =>
      unfold Go.Proofs.YtjoiflokekebkaaDoor.must at h
      split at h
      · injection h with h
        injection h with _ h
        exact .inr ⟨h.symm, Bad.must s z' hz'⟩
      · cases h
    | cons a pre =>
      unfold Go.Proofs.YtjoiflokekebkaaDoor.must at h ⊢
      split at h
      · rename_i hw
        injection h with h
        injection h with _ h
        exact .inl ⟨pre, h.symm, by rw [if_pos (by rw [← hw]; rfl)]; rfl⟩
      · cases h
  · rw [Bad.must s z hz] at h
    cases h
theorem brace_great : upperB brace.data.toList = false := by decide +kernel
theorem Cut.name (g : Bool) : Cut (name g) := by
  refine ⟨fun pre t z z' v r ht hz hz' h => ?_, fun z v r hz h => ?_⟩
  · cases pre with
    | nil =>
      unfold Go.Proofs.YtjoiflokekebkaaDoor.name at h
      rw [if_neg (by simp [namedB, hd, ht.1])] at h
      cases h
    | cons a pre =>
      unfold Go.Proofs.YtjoiflokekebkaaDoor.name at h ⊢
      split at h
      · rename_i hw
        injection h with h
        injection h with h1 h
        exact .inl ⟨pre, h.symm, by rw [if_pos (by rw [← hw]; rfl), ← h1]; rfl⟩
      · cases h
  · rw [Bad.name g z hz] at h
    cases h
theorem Cut.numE {p : Int → Ps α} {q : Ps α} (hp : ∀ n, Cut (p n)) (hq : Cut q) : Cut (numE p q) := by
  refine ⟨fun pre t z z' v r ht hz hz' h => ?_, fun z v r hz h => ?_⟩
  · cases pre with
    | nil =>
      unfold Go.Proofs.YtjoiflokekebkaaDoor.numE at h ⊢
      rw [if_neg (by simp [hd, ht.1])] at h
      rw [if_neg (by simp [hd, hz'])]
      exact hq.go [] t z z' v r ht hz hz' h
    | cons a pre =>
      unfold Go.Proofs.YtjoiflokekebkaaDoor.numE at h ⊢
      by_cases hk : a.k = 2
      · rw [if_pos (by exact hk)] at h ⊢
        exact (hp a.n).go pre t z z' v r ht hz hz' h
      · rw [if_neg (by exact hk)] at h ⊢
        exact hq.go (a :: pre) t z z' v r ht hz hz' h
  · unfold Go.Proofs.YtjoiflokekebkaaDoor.numE at h
    rw [if_neg (by simp [hd, hz])] at h
    exact hq.fin z v r hz h
theorem Cut.greatE {p q : Ps α} (hp : Cut p) (hq : Cut q) : Cut (greatE p q) := by
  refine ⟨fun pre t z z' v r ht hz hz' h => ?_, fun z v r hz h => ?_⟩
  · cases pre with
    | nil =>
      unfold Go.Proofs.YtjoiflokekebkaaDoor.greatE at h ⊢
      rw [if_neg (by simp [namedB, hd, ht.1])] at h
      rw [List.nil_append, if_neg (by rw [named_end hz']; decide)]
      exact hq.go [] t z z' v r ht hz hz' h
    | cons a pre =>
      unfold Go.Proofs.YtjoiflokekebkaaDoor.greatE at h ⊢
      cases hk : namedB true a with
      | true =>
        rw [if_pos (by exact hk)] at h ⊢
        exact hp.go (a :: pre) t z z' v r ht hz hz' h
      | false =>
        rw [if_neg (by show ¬ namedB true a = true; rw [hk]; decide)] at h ⊢
        exact hq.go (a :: pre) t z z' v r ht hz hz' h
  · unfold Go.Proofs.YtjoiflokekebkaaDoor.greatE at h
    rw [if_neg (by rw [named_end hz]; decide)] at h
    exact hq.fin z v r hz h
/-- Rounds enough. -/
theorem Cut.fuel {f : Nat → Ps α} (h : ∀ n, Cut (f n)) (hf : ∀ (n m : Nat) (ts : List Tk), ts.length < n → ts.length < m → f n ts = f m ts) : Cut (fun ts => f (ts.length + 1) ts) := by
  refine ⟨fun pre t z z' v r ht hz hz' h1 => ?_, fun z v r hz h1 => (h _).fin z v r hz h1⟩
  rcases (h _).go pre t z z' v r ht hz hz' h1 with ⟨pre2, h2, h3⟩ | ⟨h2, h3⟩
  · exact .inl ⟨pre2, h2, by rw [← h3]; exact hf _ _ _ (by omega) (by simp)⟩
  · exact .inr ⟨h2, by rw [← h3]; exact hf _ _ _ (by omega) (by simp)⟩
theorem Cut.hd {F : Int → Ps α} (h : ∀ a, Cut (F a)) (hb : ∀ a, Bad (F a)) (hl : ∀ a, Lt (F a)) : Cut (fun ts => F (Go.Proofs.YtjoiflokekebkaaDoor.hd ts).at_ ts) := by
  refine ⟨fun pre t z z' v r ht hz hz' h1 => ?_, fun z v r hz h1 => (h _).fin z v r hz h1⟩
  cases pre with
  | nil =>
    rcases (h _).go [] t z z' v r ht hz hz' h1 with ⟨pre2, h2, _⟩ | ⟨h2, _⟩
    · have := (hl _ _ _ _ h1).2
      rw [h2] at this
      simp at this
      omega
    · exact .inr ⟨h2, hb _ z' hz'⟩
  | cons a pre => exact (h a.at_).go (a :: pre) t z z' v r ht hz hz' h1
end
/-! ### The reader's own -/
theorem Cut.more {α : Type} {fin : ByteArray} {read : Ps α} (hr : Cut read) : ∀ n, Cut (moreP fin read n)
  | 0 => Cut.stp _
  | n + 1 => Cut.optE (by decide +kernel) (Cut.bd hr fun _ => Cut.bd (Cut.more hr n) fun _ => Cut.ret _) (Cut.bd (Cut.must _) fun _ => Cut.ret _)
theorem Cut.moreF {α : Type} {fin : ByteArray} {read : Ps α} (hr : Cut read) (hl : Le read) : Cut (fun ts => moreP fin read (ts.length + 1) ts) := Cut.fuel (Cut.more hr) (more_fuel hl)
theorem Cut.list2 {α : Type} {fin : ByteArray} {read : Ps α} (hr : Cut read) (hl : Le read) : Cut (read.bd fun x => fun ts => (moreP fin read (ts.length + 1)).bd (fun l => .ret (x :: l)) ts) :=
  Cut.bd hr fun x => Cut.bd (p := fun ts => moreP fin read (ts.length + 1) ts) (Cut.moreF hr hl) fun _ => Cut.ret _
theorem Cut.list {α : Type} {fin : ByteArray} {read : Ps α} (hs : (brace.toList == fin.toList) = false) (hr : Cut read) (hl : Le read) : Cut (listP fin read) := Cut.optE hs (Cut.ret _) (Cut.list2 hr hl)
theorem Cut.listB {α : Type} {read : Ps α} (hr : Cut read) (hl : Le read) (hb : Bad read) : Cut (listP brace read) := Cut.optB (Cut.list2 hr hl) (Bad.bd hb)
theorem Cut.ty : ∀ k, Cut (tyP k)
  | 0 => Cut.stp _
  | k + 1 => Cut.optE (by decide +kernel) (Cut.ret _) (Cut.optE (by decide +kernel) (Cut.bd (Cut.name _) fun _ => Cut.ret _) (Cut.optE (by decide +kernel) (Cut.bd (Cut.ty k) fun _ => Cut.ret _)
      (Cut.optE (by decide +kernel) (Cut.optE (by decide +kernel) (Cut.bd (Cut.ty k) fun _ => Cut.ret _) (Cut.bd (Cut.ty k) fun _ => Cut.ret _)) (Cut.bd (Cut.name _) fun _ => Cut.ret _))))
theorem Cut.field : Cut fieldP := Cut.bd (Cut.name _) fun _ => Cut.bd (Cut.must _) fun _ => Cut.bd (Cut.ty _) fun _ => Cut.ret _
theorem Bad.field : Bad fieldP := Bad.bd (Bad.name _)
theorem Cut.variant : Cut variantP := Cut.bd (Cut.name _) fun _ => Cut.optE (by decide +kernel) (Cut.bd (Cut.ty _) fun _ => Cut.bd (Cut.must _) fun _ => Cut.ret _) (Cut.ret _)
theorem Bad.variant : Bad variantP := Bad.bd (Bad.name _)
theorem Cut.steps : ∀ n, Cut (stepsP n)
  | 0 => Cut.stp _
  | n + 1 => Cut.optE (by decide +kernel) (Cut.optE (by decide +kernel) (Cut.bd (Cut.steps n) fun _ => Cut.ret _) (Cut.bd (Cut.name _) fun _ => Cut.bd (Cut.steps n) fun _ => Cut.ret _)) (Cut.ret _)
theorem Cut.place : Cut placeP := Cut.bd (Cut.name _) fun n => Cut.bd (p := fun ts => stepsP (ts.length + 1) ts) (Cut.fuel Cut.steps steps_fuel) fun _ => Cut.ret _
theorem Bad.place : Bad placeP := Bad.bd (Bad.name _)
theorem Cut.bare : Cut bareP := Cut.bd (Cut.name _) fun _ => Cut.ret _
theorem Bad.bare : Bad bareP := Bad.bd (Bad.name _)
theorem Cut.oper : Cut operP := Cut.optE (by decide +kernel) (Cut.numE (fun _ => Cut.ret _) (Cut.stp _)) (Cut.numE (fun _ => Cut.ret _) (Cut.bd Cut.place fun _ => Cut.ret _))
theorem Bad.oper : Bad operP := Bad.optE (Bad.numE (Bad.bd Bad.place))
theorem Cut.args : Cut argsP := Cut.bd (Cut.must _) fun _ => Cut.list (by decide +kernel) Cut.oper Lt.oper.le
theorem Cut.made : Cut madeP := Cut.bd (Cut.name _) fun _ => Cut.optE (by decide +kernel) (Cut.bd (Cut.name _) fun _ => Cut.optE (by decide +kernel) (Cut.bd Cut.oper fun _ => Cut.bd (Cut.must _) fun _ => Cut.ret _) (Cut.ret _)) (Cut.bd Cut.args fun _ => Cut.ret _)
theorem Cut.sign (a : Opr) (k : Int) : Cut (signE a k) := Cut.bd Cut.oper fun _ => Cut.ret _
theorem Cut.set : Cut setP :=
  Cut.optE (by decide +kernel) (Cut.optE (by decide +kernel) (Cut.bd Cut.place fun _ => Cut.ret _) (Cut.bd Cut.place fun _ => Cut.ret _)) <| Cut.optE (by decide +kernel) (Cut.bd Cut.oper fun _ => Cut.ret _) <| Cut.optE (by decide +kernel) (Cut.bd Cut.oper fun _ => Cut.ret _) <|
  Cut.optE (by decide +kernel) (Cut.bd Cut.bare fun _ => Cut.ret _) <| Cut.optE (by decide +kernel) (Cut.bd Cut.bare fun _ => Cut.ret _) <| Cut.optE (by decide +kernel) (Cut.bd Cut.bare fun _ => Cut.ret _) <|
  Cut.optE (by decide +kernel) (Cut.bd (Cut.name _) fun _ => Cut.bd Cut.args fun _ => Cut.ret _) <| Cut.greatE Cut.made <|
  Cut.bd Cut.oper fun _ => Cut.optE (by decide +kernel) (Cut.sign _ _) <| Cut.optE (by decide +kernel) (Cut.sign _ _) <| Cut.optE (by decide +kernel) (Cut.sign _ _) <| Cut.optE (by decide +kernel) (Cut.sign _ _) <| Cut.optE (by decide +kernel) (Cut.sign _ _) (Cut.ret _)
section
variable {blk : Ps (List Stm)} (hl : Le blk) (hc : Cut blk)
include hl hc
omit hl in
theorem Cut.arm : Cut (armP blk) := Cut.bd (Cut.name _) fun _ => Cut.optE (by decide +kernel) (Cut.bd (Cut.name _) fun _ => Cut.bd (Cut.must _) fun _ => Cut.bd (Cut.must _) fun _ => Cut.bd hc fun _ => Cut.ret _) (Cut.bd (Cut.must _) fun _ => Cut.bd hc fun _ => Cut.ret _)
omit hl hc in
theorem Bad.arm : Bad (armP blk) := Bad.bd (Bad.name _)
omit hl in
theorem Cut.arms : ∀ n, Cut (armsP blk n)
  | 0 => Cut.stp _
  | n + 1 => Cut.optB (Cut.bd (Cut.arm hc) fun _ => Cut.bd (Cut.arms n) fun _ => Cut.ret _) (Bad.bd Bad.arm)
omit hl hc in
theorem Cut.simple (a : Int) : Cut (simpleP a) :=
  Cut.optE (by decide +kernel) (Cut.bd (Cut.name _) fun _ => Cut.bd (Cut.must _) fun _ => Cut.bd (Cut.ty _) fun _ => Cut.bd (Cut.must _) fun _ => Cut.bd Cut.set fun _ => Cut.ret _) <|
  Cut.optE (by decide +kernel) (Cut.bd Cut.oper fun _ => Cut.ret _) <| Cut.optE (by decide +kernel) (Cut.bd Cut.oper fun _ => Cut.ret _) <| Cut.optE (by decide +kernel) (Cut.bd Cut.oper fun _ => Cut.ret _) <| Cut.optE (by decide +kernel) (Cut.bd Cut.bare fun _ => Cut.ret _) <|
  Cut.bd Cut.place fun _ => Cut.bd (Cut.must _) fun _ => Cut.bd Cut.set fun _ => Cut.ret _
omit hl hc in
theorem Bad.simple (a : Int) : Bad (simpleP a) := Bad.optE <| Bad.optE <| Bad.optE <| Bad.optE <| Bad.optE <| Bad.bd Bad.place
theorem Cut.stmtQ (a : Int) : Cut (stmtQ blk a) :=
  Cut.optE (by decide +kernel) (Cut.bd Cut.oper fun _ => Cut.bd hc fun _ => Cut.optE (by decide +kernel) (Cut.bd hc fun _ => Cut.ret _) (Cut.ret _)) <|
  Cut.optE (by decide +kernel) (Cut.bd Cut.oper fun _ => Cut.bd hc fun _ => Cut.ret _) <|
  Cut.optE (by decide +kernel) (Cut.bd Cut.bare fun _ => Cut.bd (Cut.must _) fun _ => Cut.bd (p := fun us => armsP blk (us.length + 1) us) (Cut.fuel (Cut.arms hc) (arms_fuel hl)) fun _ => Cut.ret _) <|
  Cut.bd (Cut.simple _) fun _ => Cut.bd (Cut.must _) fun _ => Cut.ret _
omit hl hc in
theorem Bad.stmtQ (a : Int) : Bad (stmtQ blk a) := Bad.optE <| Bad.optE <| Bad.optE <| Bad.bd (Bad.simple _)
theorem Cut.stmt : Cut (stmtP blk) := Cut.hd (F := Go.Proofs.YtjoiflokekebkaaDoor.stmtQ blk) (Cut.stmtQ hl hc) Bad.stmtQ (Lt.stmtQ hl)
omit hl hc in
theorem Bad.stmt : Bad (stmtP blk) := fun z hz => Bad.stmtQ z.at_ z hz
theorem Cut.stmts : ∀ n, Cut (stmtsP blk n)
  | 0 => Cut.stp _
  | n + 1 => Cut.optB (Cut.bd (Cut.stmt hl hc) fun _ => Cut.bd (Cut.stmts n) fun _ => Cut.ret _) (Bad.bd Bad.stmt)
end
theorem Cut.block : ∀ k, Cut (blockP k)
  | 0 => ⟨fun pre t z z' v r _ _ _ h => by
      simp only [blockP] at h
      split at h <;> (cases h), fun z v r _ h => by
      simp only [blockP] at h
      split at h <;> (cases h)⟩
  | k + 1 => Cut.bd (Cut.must _) fun _ => Cut.fuel (Cut.stmts (Le.block k) (Cut.block k)) (stmts_fuel (Le.block k))
theorem Cut.struct (d : Bool) (a : Int) : Cut (structP d a) := Cut.bd (Cut.must _) fun _ => Cut.bd (Cut.name _) fun _ => Cut.bd (Cut.must _) fun _ => Cut.bd (Cut.listB Cut.field Lt.field.le Bad.field) fun _ => Cut.ret _
theorem Cut.enum (a : Int) : Cut (enumP a) := Cut.bd (Cut.name _) fun _ => Cut.bd (Cut.must _) fun _ => Cut.bd (Cut.listB Cut.variant Lt.variant.le Bad.variant) fun _ => Cut.ret _
theorem Cut.fn (a : Int) : Cut (fnP a) := Cut.bd (Cut.must _) fun _ => Cut.bd (Cut.name _) fun _ => Cut.bd (Cut.must _) fun _ => Cut.bd (Cut.list (by decide +kernel) Cut.field Lt.field.le) fun _ => Cut.bd (Cut.block _) fun _ => Cut.ret _
theorem item_brace (s : Src) (a : Int) {t z : Tk} (ht : Brace t) : itemQ s a [t, z] = .error (60, t.at_) := by
  have hw : ∀ w : ByteArray, (brace.toList == w.toList) = false → isW w [t, z] = false := fun w h => by simp [isW, hd, ht.1, ht.2, h]
  unfold itemQ
  rw [optE_f (hw _ (by decide +kernel)), if_neg (by rw [hw _ (by decide +kernel)]; decide), optE_f (hw _ (by decide +kernel))]
  refine Ps.bd_err ?_
  unfold fnP
  refine Ps.bd_err ?_
  unfold must
  rw [if_neg (by rw [hw _ (by decide +kernel)]; decide)]
  rfl
theorem Cut.itemQ (s : Src) (a : Int) : Cut (itemQ s a) := by
  refine Cut.optE (by decide +kernel) (Cut.bd (Cut.struct _ _) fun _ => Cut.ret _) ?_
  have h1 : Cut ((structP false a).bd fun x => Ps.ret { s with ss := s.ss ++ [x] }) := Cut.bd (Cut.struct _ _) fun _ => Cut.ret _
  have h2 : Cut (Go.Proofs.YtjoiflokekebkaaDoor.optE (⟨#[101, 110, 117, 109]⟩ : ByteArray) ((enumP a).bd fun x => Ps.ret { s with es := s.es ++ [x] }) ((fnP a).bd fun x => Ps.ret { s with fs := s.fs ++ [x] })) := Cut.optE (by decide +kernel) (Cut.bd (Cut.enum _) fun _ => Cut.ret _) (Cut.bd (Cut.fn _) fun _ => Cut.ret _)
  refine ⟨fun pre t z z' v r ht hz hz' h => ?_, fun z v r hz h => ?_⟩
  · cases pre with
    | nil =>
      have hw0 : ∀ w : ByteArray, (brace.toList == w.toList) = false → isW w [t, z] = false := fun w h => by simp [isW, Go.Proofs.YtjoiflokekebkaaDoor.hd, ht.1, ht.2, h]
      have hw : isW (⟨#[115, 116, 114, 117, 99, 116]⟩ : ByteArray) [t, z] = false := hw0 _ (by decide +kernel)
      rw [List.nil_append, if_neg (by rw [hw]; decide)] at h
      rw [List.nil_append, if_neg (by rw [isW_end hz']; decide)]
      exact h2.go [] t z z' v r ht hz hz' h
    | cons b pre =>
      cases hw : isW (⟨#[115, 116, 114, 117, 99, 116]⟩ : ByteArray) (b :: pre ++ [t, z]) with
      | true =>
        rw [if_pos hw] at h
        rw [if_pos (by rw [← hw]; rfl)]
        exact h1.go (b :: pre) t z z' v r ht hz hz' h
      | false =>
        rw [if_neg (by rw [hw]; decide)] at h
        rw [if_neg (by rw [show isW (⟨#[115, 116, 114, 117, 99, 116]⟩ : ByteArray) (b :: pre ++ [z']) = isW (⟨#[115, 116, 114, 117, 99, 116]⟩ : ByteArray) (b :: pre ++ [t, z]) from rfl, hw]; decide)]
        exact h2.go (b :: pre) t z z' v r ht hz hz' h
  · rw [if_neg (by rw [isW_end hz]; decide)] at h
    exact h2.fin z v r hz h
/-- Items of a text that is cut off ahead of its last token, a closing brace, are not read. -/
theorem items_cut : ∀ (n : Nat) (s : Src) (pre : List Tk) (t z z' : Tk) (v : Src) (r : List Tk), Brace t → z.k = 0 → z'.k = 0 → (∀ a ∈ pre, a.k ≠ 0) → itemsP n s (pre ++ [t, z]) = .ok (v, r) → itemsP n s (pre ++ [z']) = .error (60, z'.at_)
  | 0, _, _, _, _, _, _, _, _, _, _, _, h => by cases h
  | n + 1, s, pre, t, z, z', v, r, ht, hz, hz', hp, h => by
    have hi : ∀ us, itemP s us = Go.Proofs.YtjoiflokekebkaaDoor.itemQ s (hd us).at_ us := fun us => rfl
    cases pre with
    | nil =>
      simp only [itemsP, List.nil_append] at h
      rw [if_neg (by simp [hd, ht.1])] at h
      obtain ⟨x, us, h1, _⟩ := bd_split h
      rw [hi, item_brace s _ ht] at h1
      cases h1
    | cons a pre =>
      have ha : a.k ≠ 0 := hp a (by simp)
      simp only [itemsP] at h ⊢
      rw [if_neg (by simpa [hd] using ha)] at h
      rw [if_neg (by simpa [hd] using ha)]
      obtain ⟨x, us, h1, h2⟩ := bd_split h
      rw [hi] at h1
      rcases (Cut.itemQ s a.at_).go (a :: pre) t z z' x us ht hz hz' h1 with ⟨pre2, rfl, h3⟩ | ⟨rfl, h3⟩
      · rw [Ps.bd_ok (show itemP s (a :: pre ++ [z']) = .ok (x, pre2 ++ [z']) from h3)]
        refine items_cut n x pre2 t z z' v r ht hz hz' (fun b hb => ?_) h2
        obtain ⟨q, hq⟩ := ((Lt.item s) _ _ _ (show itemP s (a :: pre ++ [t, z]) = .ok (x, pre2 ++ [t, z]) from h1)).1
        rw [← List.append_assoc] at hq
        have := List.append_cancel_right hq
        exact hp b (by rw [← this]; simp [hb])
      · exact Ps.bd_err (show itemP s (a :: pre ++ [z']) = .error (60, z'.at_) from h3)
end Go.Proofs.YtjoiflokekebkaaDoor
