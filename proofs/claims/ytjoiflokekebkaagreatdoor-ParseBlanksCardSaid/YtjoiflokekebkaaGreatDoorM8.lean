/- Texts of this claim in one file: Pc, Pe, Pl, P3, P4, P5. -/
import Derived.Test.YtjoiflokekebkaaGreatDoorM2
import Derived.Test.YtjoiflokekebkaaGreatDoorM1
set_option linter.all false
section
/- Plain: a text that is cut off ahead of its last token. -/
namespace Go.Proofs.YtjoiflokekebkaaGreatDoor

theorem more_fuel {α : Type} {fin : ByteArray} {read : Ps α} (hr : Le read) : ∀ (n m : Nat) (ts : List Tk), ts.length < n → ts.length < m → moreP fin read n ts = moreP fin read m ts
  | 0, _, _, h, _ => by omega
  | n + 1, 0, _, _, h => by omega
  | n + 1, m + 1, ts, h1, h2 => by
    simp only [moreP, optE]
    split
    · rename_i hw
      have hp := isW_pos hw
      unfold Ps.bd
      cases hx : read ts.tail with
      | error e => rfl
      | ok q =>
        obtain ⟨x, us⟩ := q
        have := hr.len hx
        simp only
        rw [more_fuel hr n m us (by omega) (by omega)]
    · rfl
theorem steps_fuel : ∀ (n m : Nat) (ts : List Tk), ts.length < n → ts.length < m → stepsP n ts = stepsP m ts
  | 0, _, _, h, _ => by omega
  | n + 1, 0, _, _, h => by omega
  | n + 1, m + 1, ts, h1, h2 => by
    simp only [stepsP, optE]
    split
    · rename_i hw
      have hp := isW_pos hw
      split
      · rename_i hw2
        have hp2 := isW_pos hw2
        unfold Ps.bd
        rw [steps_fuel n m _ (by omega) (by omega)]
      · unfold Ps.bd
        cases hx : name false ts.tail with
        | error e => rfl
        | ok q =>
          obtain ⟨x, us⟩ := q
          have := (Lt.name false).le.len hx
          simp only
          rw [steps_fuel n m us (by omega) (by omega)]
    · rfl
section
variable {blk : Ps (List Stm)} (hb : Le blk)
include hb
theorem arms_fuel : ∀ (n m : Nat) (ts : List Tk), ts.length < n → ts.length < m → armsP blk n ts = armsP blk m ts
  | 0, _, _, h, _ => by omega
  | n + 1, 0, _, _, h => by omega
  | n + 1, m + 1, ts, h1, h2 => by
    simp only [armsP, optE]
    split
    · rfl
    · unfold Ps.bd
      cases hx : armP blk ts with
      | error e => rfl
      | ok q =>
        obtain ⟨x, us⟩ := q
        have := ((Lt.arm hb) _ _ _ hx).2
        simp only
        rw [arms_fuel n m us (by omega) (by omega)]
theorem stmts_fuel : ∀ (n m : Nat) (ts : List Tk), ts.length < n → ts.length < m → stmtsP blk n ts = stmtsP blk m ts
  | 0, _, _, h, _ => by omega
  | n + 1, 0, _, _, h => by omega
  | n + 1, m + 1, ts, h1, h2 => by
    simp only [stmtsP, optE]
    split
    · rfl
    · unfold Ps.bd
      cases hx : stmtP blk ts with
      | error e => rfl
      | ok q =>
        obtain ⟨x, us⟩ := q
        have := ((Lt.stmt hb) _ _ _ hx).2
        simp only
        rw [stmts_fuel n m us (by omega) (by omega)]
end
theorem items_fuel : ∀ (n m : Nat) (s : Src) (ts : List Tk), ts.length < n → ts.length < m → itemsP n s ts = itemsP m s ts
  | 0, _, _, _, h, _ => by omega
  | n + 1, 0, _, _, _, h => by omega
  | n + 1, m + 1, s, ts, h1, h2 => by
    simp only [itemsP]
    split
    · rfl
    · unfold Ps.bd
      cases hx : itemP s ts with
      | error e => rfl
      | ok q =>
        obtain ⟨x, us⟩ := q
        have := ((Lt.item s) _ _ _ hx).2
        simp only
        rw [items_fuel n m x us (by omega) (by omega)]

def brace : ByteArray := (⟨#[125]⟩ : ByteArray)
/-- A closing brace. -/
def Brace (t : Tk) : Prop := t.k = 3 ∧ t.s = brace
structure Cut {α : Type} (p : Ps α) : Prop where
  go : ∀ (pre : List Tk) (t z z' : Tk) (v : α) (r : List Tk), Brace t → z.k = 0 → z'.k = 0 → p (pre ++ [t, z]) = .ok (v, r) →
    (∃ pre2, r = pre2 ++ [t, z] ∧ p (pre ++ [z']) = .ok (v, pre2 ++ [z'])) ∨ (r = [z] ∧ p (pre ++ [z']) = .error (60, z'.at_))
  fin : ∀ (z : Tk) (v : α) (r : List Tk), z.k = 0 → p [z] = .ok (v, r) → r = [z]
/-- It does not stand where a text ends. -/
def Bad {α : Type} (p : Ps α) : Prop := ∀ z : Tk, z.k = 0 → p [z] = .error (60, z.at_)
theorem isW_end {s : ByteArray} {z : Tk} (hz : z.k = 0) (r : List Tk) : isW s (z :: r) = false := by simp [isW, hd, hz]
theorem named_end {g : Bool} {z : Tk} (hz : z.k = 0) (r : List Tk) : namedB g (hd (z :: r)) = false := by simp [namedB, hd, hz]
theorem hd_app {a : Tk} (pre : List Tk) (r : List Tk) : hd (a :: pre ++ r) = a := rfl
theorem isW_app (s : ByteArray) (a : Tk) (pre r r' : List Tk) : isW s (a :: pre ++ r) = isW s (a :: pre ++ r') := rfl
section
variable {α β : Type}
theorem Cut.ret (x : α) : Cut (Ps.ret x) :=
  ⟨fun pre t z z' v r _ _ _ h => by injection h with h; injection h with h1 h2; subst h1 h2; exact .inl ⟨pre, rfl, rfl⟩, fun z v r _ h => by injection h with h; injection h with _ h; exact h.symm⟩
theorem Cut.stp (e : Int) : Cut (stp e : Ps α) := ⟨fun _ _ _ _ _ _ _ _ _ h => by (cases h), fun _ _ _ _ h => by (cases h)⟩
theorem Cut.bd {p : Ps α} {f : α → Ps β} (hp : Cut p) (hf : ∀ x, Cut (f x)) : Cut (p.bd f) := by
  refine ⟨fun pre t z z' v r ht hz hz' h => ?_, fun z v r hz h => ?_⟩
  · obtain ⟨x, us, h1, h2⟩ := bd_split h
    rcases hp.go pre t z z' x us ht hz hz' h1 with ⟨pre2, rfl, h3⟩ | ⟨rfl, h3⟩
    · rcases (hf x).go pre2 t z z' v r ht hz hz' h2 with ⟨pre3, h4, h5⟩ | ⟨h4, h5⟩
      · exact .inl ⟨pre3, h4, by rw [Ps.bd_ok h3]; exact h5⟩
      · exact .inr ⟨h4, by rw [Ps.bd_ok h3]; exact h5⟩
    · exact .inr ⟨(hf x).fin z v r hz h2, Ps.bd_err h3⟩
  · obtain ⟨x, us, h1, h2⟩ := bd_split h
    rw [hp.fin z x us hz h1] at h2
    exact (hf x).fin z v r hz h2
theorem Bad.bd {p : Ps α} {f : α → Ps β} (hp : Bad p) : Bad (p.bd f) := fun z hz => Ps.bd_err (hp z hz)
theorem Bad.must (s : ByteArray) : Bad (must s) := fun z hz => by unfold Go.Proofs.YtjoiflokekebkaaGreatDoor.must; rw [if_neg (by rw [isW_end hz]; decide)]; rfl
theorem Bad.name (g : Bool) : Bad (name g) := fun z hz => by unfold Go.Proofs.YtjoiflokekebkaaGreatDoor.name; rw [if_neg (by rw [named_end hz]; decide)]; rfl
theorem Bad.stp : Bad (stp 60 : Ps α) := fun z hz => rfl
theorem Bad.optE {s : ByteArray} {p q : Ps α} (hq : Bad q) : Bad (optE s p q) := fun z hz => by rw [optE_f (isW_end hz [])]; exact hq z hz
theorem Bad.numE {p : Int → Ps α} {q : Ps α} (hq : Bad q) : Bad (numE p q) := fun z hz => by unfold Go.Proofs.YtjoiflokekebkaaGreatDoor.numE; rw [if_neg (by simp [hd, hz])]; exact hq z hz
theorem Bad.greatE {p q : Ps α} (hq : Bad q) : Bad (greatE p q) := fun z hz => by unfold Go.Proofs.YtjoiflokekebkaaGreatDoor.greatE; rw [if_neg (by rw [named_end hz]; decide)]; exact hq z hz
theorem Bad.at_ {f : List Tk → Ps α} (h : ∀ us, Bad (f us)) : Bad (fun ts => f ts ts) := fun z hz => h [z] z hz
/-- A word that is no closing brace: it is there in both, or in none. -/
theorem Cut.optE {s : ByteArray} {p q : Ps α} (hs : (brace.toList == s.toList) = false) (hp : Cut p) (hq : Cut q) : Cut (optE s p q) := by
  refine ⟨fun pre t z z' v r ht hz hz' h => ?_, fun z v r hz h => ?_⟩
  · cases pre with
    | nil =>
      have hw : isW s [t, z] = false := by simp [isW, hd, ht.1, ht.2, hs]
      rw [List.nil_append, optE_f hw] at h
      rw [List.nil_append, optE_f (isW_end hz' [])]
      exact hq.go [] t z z' v r ht hz hz' h
    | cons a pre =>
      cases hw : isW s (a :: pre ++ [t, z]) with
      | false => rw [optE_f hw] at h; rw [optE_f (by rw [← hw]; rfl)]; exact hq.go (a :: pre) t z z' v r ht hz hz' h
      | true => rw [optE_t hw] at h; rw [optE_t (by rw [← hw]; rfl)]; exact hp.go pre t z z' v r ht hz hz' h
  · rw [optE_f (isW_end hz [])] at h
    exact hq.fin z v r hz h
/-- A closing brace ends it; else something must stand there. -/
theorem Cut.optB {x : α} {q : Ps α} (hq : Cut q) (hb : Bad q) : Cut (Go.Proofs.YtjoiflokekebkaaGreatDoor.optE brace (Ps.ret x) q) := by
  refine ⟨fun pre t z z' v r ht hz hz' h => ?_, fun z v r hz h => ?_⟩
  · cases pre with
    | nil =>
      have hw : isW brace [t, z] = true := by simp [isW, hd, ht.1, ht.2]
      rw [List.nil_append, optE_t hw] at h
      injection h with h
      injection h with _ h
      exact .inr ⟨h.symm, by rw [List.nil_append, optE_f (isW_end hz' [])]; exact hb z' hz'⟩
    | cons a pre =>
      cases hw : isW brace (a :: pre ++ [t, z]) with
      | false => rw [optE_f hw] at h; rw [optE_f (by rw [← hw]; rfl)]; exact hq.go (a :: pre) t z z' v r ht hz hz' h
      | true => rw [optE_t hw] at h; rw [optE_t (by rw [← hw]; rfl)]; exact (Cut.ret x).go pre t z z' v r ht hz hz' h
  · rw [optE_f (isW_end hz [])] at h
    exact hq.fin z v r hz h
theorem Cut.must (s : ByteArray) : Cut (must s) := by
  refine ⟨fun pre t z z' v r ht hz hz' h => ?_, fun z v r hz h => ?_⟩
  · cases pre with
    | nil =>
      unfold Go.Proofs.YtjoiflokekebkaaGreatDoor.must at h
      split at h
      · injection h with h
        injection h with _ h
        exact .inr ⟨h.symm, Bad.must s z' hz'⟩
      · cases h
    | cons a pre =>
      unfold Go.Proofs.YtjoiflokekebkaaGreatDoor.must at h ⊢
      split at h
      · rename_i hw
        injection h with h
        injection h with _ h
        exact .inl ⟨pre, h.symm, by rw [if_pos (by rw [← hw]; rfl)]; rfl⟩
      · cases h
  · rw [Bad.must s z hz] at h
    cases h
theorem brace_great : upperB brace.data.toList = false := by decide +kernel
theorem Cut.name (g : Bool) : Cut (name g) := by
  refine ⟨fun pre t z z' v r ht hz hz' h => ?_, fun z v r hz h => ?_⟩
  · cases pre with
    | nil =>
      unfold Go.Proofs.YtjoiflokekebkaaGreatDoor.name at h
      rw [if_neg (by simp [namedB, hd, ht.1])] at h
      cases h
    | cons a pre =>
      unfold Go.Proofs.YtjoiflokekebkaaGreatDoor.name at h ⊢
      split at h
      · rename_i hw
        injection h with h
        injection h with h1 h
        exact .inl ⟨pre, h.symm, by rw [if_pos (by rw [← hw]; rfl), ← h1]; rfl⟩
      · cases h
  · rw [Bad.name g z hz] at h
    cases h
theorem Cut.numE {p : Int → Ps α} {q : Ps α} (hp : ∀ n, Cut (p n)) (hq : Cut q) : Cut (numE p q) := by
  refine ⟨fun pre t z z' v r ht hz hz' h => ?_, fun z v r hz h => ?_⟩
  · cases pre with
    | nil =>
      unfold Go.Proofs.YtjoiflokekebkaaGreatDoor.numE at h ⊢
      rw [if_neg (by simp [hd, ht.1])] at h
      rw [if_neg (by simp [hd, hz'])]
      exact hq.go [] t z z' v r ht hz hz' h
    | cons a pre =>
      unfold Go.Proofs.YtjoiflokekebkaaGreatDoor.numE at h ⊢
      by_cases hk : a.k = 2
      · rw [if_pos (by exact hk)] at h ⊢
        exact (hp a.n).go pre t z z' v r ht hz hz' h
      · rw [if_neg (by exact hk)] at h ⊢
        exact hq.go (a :: pre) t z z' v r ht hz hz' h
  · unfold Go.Proofs.YtjoiflokekebkaaGreatDoor.numE at h
    rw [if_neg (by simp [hd, hz])] at h
    exact hq.fin z v r hz h
theorem Cut.greatE {p q : Ps α} (hp : Cut p) (hq : Cut q) : Cut (greatE p q) := by
  refine ⟨fun pre t z z' v r ht hz hz' h => ?_, fun z v r hz h => ?_⟩
  · cases pre with
    | nil =>
      unfold Go.Proofs.YtjoiflokekebkaaGreatDoor.greatE at h ⊢
      rw [if_neg (by simp [namedB, hd, ht.1])] at h
      rw [List.nil_append, if_neg (by rw [named_end hz']; decide)]
      exact hq.go [] t z z' v r ht hz hz' h
    | cons a pre =>
      unfold Go.Proofs.YtjoiflokekebkaaGreatDoor.greatE at h ⊢
      cases hk : namedB true a with
      | true =>
        rw [if_pos (by exact hk)] at h ⊢
        exact hp.go (a :: pre) t z z' v r ht hz hz' h
      | false =>
        rw [if_neg (by show ¬ namedB true a = true; rw [hk]; decide)] at h ⊢
        exact hq.go (a :: pre) t z z' v r ht hz hz' h
  · unfold Go.Proofs.YtjoiflokekebkaaGreatDoor.greatE at h
    rw [if_neg (by rw [named_end hz]; decide)] at h
    exact hq.fin z v r hz h
/-- Rounds enough. -/
theorem Cut.fuel {f : Nat → Ps α} (h : ∀ n, Cut (f n)) (hf : ∀ (n m : Nat) (ts : List Tk), ts.length < n → ts.length < m → f n ts = f m ts) : Cut (fun ts => f (ts.length + 1) ts) := by
  refine ⟨fun pre t z z' v r ht hz hz' h1 => ?_, fun z v r hz h1 => (h _).fin z v r hz h1⟩
  rcases (h _).go pre t z z' v r ht hz hz' h1 with ⟨pre2, h2, h3⟩ | ⟨h2, h3⟩
  · exact .inl ⟨pre2, h2, by rw [← h3]; exact hf _ _ _ (by omega) (by simp)⟩
  · exact .inr ⟨h2, by rw [← h3]; exact hf _ _ _ (by omega) (by simp)⟩
theorem Cut.hd {F : Int → Ps α} (h : ∀ a, Cut (F a)) (hb : ∀ a, Bad (F a)) (hl : ∀ a, Lt (F a)) : Cut (fun ts => F (Go.Proofs.YtjoiflokekebkaaGreatDoor.hd ts).at_ ts) := by
  refine ⟨fun pre t z z' v r ht hz hz' h1 => ?_, fun z v r hz h1 => (h _).fin z v r hz h1⟩
  cases pre with
  | nil =>
    rcases (h _).go [] t z z' v r ht hz hz' h1 with ⟨pre2, h2, _⟩ | ⟨h2, _⟩
    · have := (hl _ _ _ _ h1).2
      rw [h2] at this
      simp at this
      omega
    · exact .inr ⟨h2, hb _ z' hz'⟩
  | cons a pre => exact (h a.at_).go (a :: pre) t z z' v r ht hz hz' h1
end
/-! ### The reader's own -/
theorem Cut.more {α : Type} {fin : ByteArray} {read : Ps α} (hr : Cut read) : ∀ n, Cut (moreP fin read n)
  | 0 => Cut.stp _
  | n + 1 => Cut.optE (by decide +kernel) (Cut.bd hr fun _ => Cut.bd (Cut.more hr n) fun _ => Cut.ret _) (Cut.bd (Cut.must _) fun _ => Cut.ret _)
theorem Cut.moreF {α : Type} {fin : ByteArray} {read : Ps α} (hr : Cut read) (hl : Le read) : Cut (fun ts => moreP fin read (ts.length + 1) ts) := Cut.fuel (Cut.more hr) (more_fuel hl)
theorem Cut.list2 {α : Type} {fin : ByteArray} {read : Ps α} (hr : Cut read) (hl : Le read) : Cut (read.bd fun x => fun ts => (moreP fin read (ts.length + 1)).bd (fun l => .ret (x :: l)) ts) :=
  Cut.bd hr fun x => Cut.bd (p := fun ts => moreP fin read (ts.length + 1) ts) (Cut.moreF hr hl) fun _ => Cut.ret _
theorem Cut.list {α : Type} {fin : ByteArray} {read : Ps α} (hs : (brace.toList == fin.toList) = false) (hr : Cut read) (hl : Le read) : Cut (listP fin read) := Cut.optE hs (Cut.ret _) (Cut.list2 hr hl)
theorem Cut.listB {α : Type} {read : Ps α} (hr : Cut read) (hl : Le read) (hb : Bad read) : Cut (listP brace read) := Cut.optB (Cut.list2 hr hl) (Bad.bd hb)
theorem Cut.ty : ∀ k, Cut (tyP k)
  | 0 => Cut.stp _
  | k + 1 => Cut.optE (by decide +kernel) (Cut.ret _) (Cut.optE (by decide +kernel) (Cut.bd (Cut.name _) fun _ => Cut.ret _) (Cut.optE (by decide +kernel) (Cut.bd (Cut.ty k) fun _ => Cut.ret _)
      (Cut.optE (by decide +kernel) (Cut.optE (by decide +kernel) (Cut.bd (Cut.ty k) fun _ => Cut.ret _) (Cut.bd (Cut.ty k) fun _ => Cut.ret _)) (Cut.bd (Cut.name _) fun _ => Cut.ret _))))
theorem Cut.field : Cut fieldP := Cut.bd (Cut.name _) fun _ => Cut.bd (Cut.must _) fun _ => Cut.bd (Cut.ty _) fun _ => Cut.ret _
theorem Bad.field : Bad fieldP := Bad.bd (Bad.name _)
theorem Cut.variant : Cut variantP := Cut.bd (Cut.name _) fun _ => Cut.optE (by decide +kernel) (Cut.bd (Cut.ty _) fun _ => Cut.bd (Cut.must _) fun _ => Cut.ret _) (Cut.ret _)
theorem Bad.variant : Bad variantP := Bad.bd (Bad.name _)
theorem Cut.steps : ∀ n, Cut (stepsP n)
  | 0 => Cut.stp _
  | n + 1 => Cut.optE (by decide +kernel) (Cut.optE (by decide +kernel) (Cut.bd (Cut.steps n) fun _ => Cut.ret _) (Cut.bd (Cut.name _) fun _ => Cut.bd (Cut.steps n) fun _ => Cut.ret _)) (Cut.ret _)
theorem Cut.place : Cut placeP := Cut.bd (Cut.name _) fun n => Cut.bd (p := fun ts => stepsP (ts.length + 1) ts) (Cut.fuel Cut.steps steps_fuel) fun _ => Cut.ret _
theorem Bad.place : Bad placeP := Bad.bd (Bad.name _)
theorem Cut.bare : Cut bareP := Cut.bd (Cut.name _) fun _ => Cut.ret _
theorem Bad.bare : Bad bareP := Bad.bd (Bad.name _)
theorem Cut.oper : Cut operP := Cut.optE (by decide +kernel) (Cut.numE (fun _ => Cut.ret _) (Cut.stp _)) (Cut.numE (fun _ => Cut.ret _) (Cut.bd Cut.place fun _ => Cut.ret _))
theorem Bad.oper : Bad operP := Bad.optE (Bad.numE (Bad.bd Bad.place))
theorem Cut.args : Cut argsP := Cut.bd (Cut.must _) fun _ => Cut.list (by decide +kernel) Cut.oper Lt.oper.le
theorem Cut.made : Cut madeP := Cut.bd (Cut.name _) fun _ => Cut.optE (by decide +kernel) (Cut.bd (Cut.name _) fun _ => Cut.optE (by decide +kernel) (Cut.bd Cut.oper fun _ => Cut.bd (Cut.must _) fun _ => Cut.ret _) (Cut.ret _)) (Cut.bd Cut.args fun _ => Cut.ret _)
theorem Cut.sign (a : Opr) (k : Int) : Cut (signE a k) := Cut.bd Cut.oper fun _ => Cut.ret _
theorem Cut.set : Cut setP :=
  Cut.optE (by decide +kernel) (Cut.optE (by decide +kernel) (Cut.bd Cut.place fun _ => Cut.ret _) (Cut.bd Cut.place fun _ => Cut.ret _)) <| Cut.optE (by decide +kernel) (Cut.bd Cut.oper fun _ => Cut.ret _) <| Cut.optE (by decide +kernel) (Cut.bd Cut.oper fun _ => Cut.ret _) <|
  Cut.optE (by decide +kernel) (Cut.bd Cut.bare fun _ => Cut.ret _) <| Cut.optE (by decide +kernel) (Cut.bd Cut.bare fun _ => Cut.ret _) <| Cut.optE (by decide +kernel) (Cut.bd Cut.bare fun _ => Cut.ret _) <|
  Cut.optE (by decide +kernel) (Cut.bd (Cut.name _) fun _ => Cut.bd Cut.args fun _ => Cut.ret _) <| Cut.greatE Cut.made <|
  Cut.bd Cut.oper fun _ => Cut.optE (by decide +kernel) (Cut.sign _ _) <| Cut.optE (by decide +kernel) (Cut.sign _ _) <| Cut.optE (by decide +kernel) (Cut.sign _ _) <| Cut.optE (by decide +kernel) (Cut.sign _ _) <| Cut.optE (by decide +kernel) (Cut.sign _ _) (Cut.ret _)
section
variable {blk : Ps (List Stm)} (hl : Le blk) (hc : Cut blk)
include hl hc
omit hl in
theorem Cut.arm : Cut (armP blk) := Cut.bd (Cut.name _) fun _ => Cut.optE (by decide +kernel) (Cut.bd (Cut.name _) fun _ => Cut.bd (Cut.must _) fun _ => Cut.bd (Cut.must _) fun _ => Cut.bd hc fun _ => Cut.ret _) (Cut.bd (Cut.must _) fun _ => Cut.bd hc fun _ => Cut.ret _)
omit hl hc in
theorem Bad.arm : Bad (armP blk) := Bad.bd (Bad.name _)
omit hl in
theorem Cut.arms : ∀ n, Cut (armsP blk n)
  | 0 => Cut.stp _
  | n + 1 => Cut.optB (Cut.bd (Cut.arm hc) fun _ => Cut.bd (Cut.arms n) fun _ => Cut.ret _) (Bad.bd Bad.arm)
omit hl hc in
theorem Cut.simple (a : Int) : Cut (simpleP a) :=
  Cut.optE (by decide +kernel) (Cut.bd (Cut.name _) fun _ => Cut.bd (Cut.must _) fun _ => Cut.bd (Cut.ty _) fun _ => Cut.bd (Cut.must _) fun _ => Cut.bd Cut.set fun _ => Cut.ret _) <|
  Cut.optE (by decide +kernel) (Cut.bd Cut.oper fun _ => Cut.ret _) <| Cut.optE (by decide +kernel) (Cut.bd Cut.oper fun _ => Cut.ret _) <| Cut.optE (by decide +kernel) (Cut.bd Cut.oper fun _ => Cut.ret _) <| Cut.optE (by decide +kernel) (Cut.bd Cut.bare fun _ => Cut.ret _) <|
  Cut.bd Cut.place fun _ => Cut.bd (Cut.must _) fun _ => Cut.bd Cut.set fun _ => Cut.ret _
omit hl hc in
theorem Bad.simple (a : Int) : Bad (simpleP a) := Bad.optE <| Bad.optE <| Bad.optE <| Bad.optE <| Bad.optE <| Bad.bd Bad.place
theorem Cut.stmtQ (a : Int) : Cut (stmtQ blk a) :=
  Cut.optE (by decide +kernel) (Cut.bd Cut.oper fun _ => Cut.bd hc fun _ => Cut.optE (by decide +kernel) (Cut.bd hc fun _ => Cut.ret _) (Cut.ret _)) <|
  Cut.optE (by decide +kernel) (Cut.bd Cut.oper fun _ => Cut.bd hc fun _ => Cut.ret _) <|
  Cut.optE (by decide +kernel) (Cut.bd Cut.bare fun _ => Cut.bd (Cut.must _) fun _ => Cut.bd (p := fun us => armsP blk (us.length + 1) us) (Cut.fuel (Cut.arms hc) (arms_fuel hl)) fun _ => Cut.ret _) <|
  Cut.bd (Cut.simple _) fun _ => Cut.bd (Cut.must _) fun _ => Cut.ret _
omit hl hc in
theorem Bad.stmtQ (a : Int) : Bad (stmtQ blk a) := Bad.optE <| Bad.optE <| Bad.optE <| Bad.bd (Bad.simple _)
theorem Cut.stmt : Cut (stmtP blk) := Cut.hd (F := Go.Proofs.YtjoiflokekebkaaGreatDoor.stmtQ blk) (Cut.stmtQ hl hc) Bad.stmtQ (Lt.stmtQ hl)
omit hl hc in
theorem Bad.stmt : Bad (stmtP blk) := fun z hz => Bad.stmtQ z.at_ z hz
theorem Cut.stmts : ∀ n, Cut (stmtsP blk n)
  | 0 => Cut.stp _
  | n + 1 => Cut.optB (Cut.bd (Cut.stmt hl hc) fun _ => Cut.bd (Cut.stmts n) fun _ => Cut.ret _) (Bad.bd Bad.stmt)
end
theorem Cut.block : ∀ k, Cut (blockP k)
  | 0 => ⟨fun pre t z z' v r _ _ _ h => by
      simp only [blockP] at h
      split at h <;> (cases h), fun z v r _ h => by
      simp only [blockP] at h
      split at h <;> (cases h)⟩
  | k + 1 => Cut.bd (Cut.must _) fun _ => Cut.fuel (Cut.stmts (Le.block k) (Cut.block k)) (stmts_fuel (Le.block k))
theorem Cut.struct (d : Bool) (a : Int) : Cut (structP d a) := Cut.bd (Cut.must _) fun _ => Cut.bd (Cut.name _) fun _ => Cut.bd (Cut.must _) fun _ => Cut.bd (Cut.listB Cut.field Lt.field.le Bad.field) fun _ => Cut.ret _
theorem Cut.enum (a : Int) : Cut (enumP a) := Cut.bd (Cut.name _) fun _ => Cut.bd (Cut.must _) fun _ => Cut.bd (Cut.listB Cut.variant Lt.variant.le Bad.variant) fun _ => Cut.ret _
theorem Cut.fn (a : Int) : Cut (fnP a) := Cut.bd (Cut.must _) fun _ => Cut.bd (Cut.name _) fun _ => Cut.bd (Cut.must _) fun _ => Cut.bd (Cut.list (by decide +kernel) Cut.field Lt.field.le) fun _ => Cut.bd (Cut.block _) fun _ => Cut.ret _
theorem item_brace (s : Src) (a : Int) {t z : Tk} (ht : Brace t) : itemQ s a [t, z] = .error (60, t.at_) := by
  have hw : ∀ w : ByteArray, (brace.toList == w.toList) = false → isW w [t, z] = false := fun w h => by simp [isW, hd, ht.1, ht.2, h]
  unfold itemQ
  rw [optE_f (hw _ (by decide +kernel)), if_neg (by rw [hw _ (by decide +kernel)]; decide), optE_f (hw _ (by decide +kernel))]
  refine Ps.bd_err ?_
  unfold fnP
  refine Ps.bd_err ?_
  unfold must
  rw [if_neg (by rw [hw _ (by decide +kernel)]; decide)]
  rfl
theorem Cut.itemQ (s : Src) (a : Int) : Cut (itemQ s a) := by
  refine Cut.optE (by decide +kernel) (Cut.bd (Cut.struct _ _) fun _ => Cut.ret _) ?_
  have h1 : Cut ((structP false a).bd fun x => Ps.ret { s with ss := s.ss ++ [x] }) := Cut.bd (Cut.struct _ _) fun _ => Cut.ret _
  have h2 : Cut (Go.Proofs.YtjoiflokekebkaaGreatDoor.optE (⟨#[101, 110, 117, 109]⟩ : ByteArray) ((enumP a).bd fun x => Ps.ret { s with es := s.es ++ [x] }) ((fnP a).bd fun x => Ps.ret { s with fs := s.fs ++ [x] })) := Cut.optE (by decide +kernel) (Cut.bd (Cut.enum _) fun _ => Cut.ret _) (Cut.bd (Cut.fn _) fun _ => Cut.ret _)
  refine ⟨fun pre t z z' v r ht hz hz' h => ?_, fun z v r hz h => ?_⟩
  · cases pre with
    | nil =>
      have hw0 : ∀ w : ByteArray, (brace.toList == w.toList) = false → isW w [t, z] = false := fun w h => by simp [isW, Go.Proofs.YtjoiflokekebkaaGreatDoor.hd, ht.1, ht.2, h]
      have hw : isW (⟨#[115, 116, 114, 117, 99, 116]⟩ : ByteArray) [t, z] = false := hw0 _ (by decide +kernel)
      rw [List.nil_append, if_neg (by rw [hw]; decide)] at h
      rw [List.nil_append, if_neg (by rw [isW_end hz']; decide)]
      exact h2.go [] t z z' v r ht hz hz' h
    | cons b pre =>
      cases hw : isW (⟨#[115, 116, 114, 117, 99, 116]⟩ : ByteArray) (b :: pre ++ [t, z]) with
      | true =>
        rw [if_pos hw] at h
        rw [if_pos (by rw [← hw]; rfl)]
        exact h1.go (b :: pre) t z z' v r ht hz hz' h
      | false =>
        rw [if_neg (by rw [hw]; decide)] at h
        rw [if_neg (by rw [show isW (⟨#[115, 116, 114, 117, 99, 116]⟩ : ByteArray) (b :: pre ++ [z']) = isW (⟨#[115, 116, 114, 117, 99, 116]⟩ : ByteArray) (b :: pre ++ [t, z]) from rfl, hw]; decide)]
        exact h2.go (b :: pre) t z z' v r ht hz hz' h
  · rw [if_neg (by rw [isW_end hz]; decide)] at h
    exact h2.fin z v r hz h
/-- Items of a text that is cut off ahead of its last token, a closing brace, are not read. -/
theorem items_cut : ∀ (n : Nat) (s : Src) (pre : List Tk) (t z z' : Tk) (v : Src) (r : List Tk), Brace t → z.k = 0 → z'.k = 0 → (∀ a ∈ pre, a.k ≠ 0) → itemsP n s (pre ++ [t, z]) = .ok (v, r) → itemsP n s (pre ++ [z']) = .error (60, z'.at_)
  | 0, _, _, _, _, _, _, _, _, _, _, _, h => by cases h
  | n + 1, s, pre, t, z, z', v, r, ht, hz, hz', hp, h => by
    have hi : ∀ us, itemP s us = Go.Proofs.YtjoiflokekebkaaGreatDoor.itemQ s (hd us).at_ us := fun us => rfl
    cases pre with
    | nil =>
      simp only [itemsP, List.nil_append] at h
      rw [if_neg (by simp [hd, ht.1])] at h
      obtain ⟨x, us, h1, _⟩ := bd_split h
      rw [hi, item_brace s _ ht] at h1
      cases h1
    | cons a pre =>
      have ha : a.k ≠ 0 := hp a (by simp)
      simp only [itemsP] at h ⊢
      rw [if_neg (by simpa [hd] using ha)] at h
      rw [if_neg (by simpa [hd] using ha)]
      obtain ⟨x, us, h1, h2⟩ := bd_split h
      rw [hi] at h1
      rcases (Cut.itemQ s a.at_).go (a :: pre) t z z' x us ht hz hz' h1 with ⟨pre2, rfl, h3⟩ | ⟨rfl, h3⟩
      · rw [Ps.bd_ok (show itemP s (a :: pre ++ [z']) = .ok (x, pre2 ++ [z']) from h3)]
        refine items_cut n x pre2 t z z' v r ht hz hz' (fun b hb => ?_) h2
        obtain ⟨q, hq⟩ := ((Lt.item s) _ _ _ (show itemP s (a :: pre ++ [t, z]) = .ok (x, pre2 ++ [t, z]) from h1)).1
        rw [← List.append_assoc] at hq
        have := List.append_cancel_right hq
        exact hp b (by rw [← this]; simp [hb])
      · exact Ps.bd_err (show itemP s (a :: pre ++ [z']) = .error (60, z'.at_) from h3)
end Go.Proofs.YtjoiflokekebkaaGreatDoor
end

section
/- Plain: items end with a closing brace. -/
namespace Go.Proofs.YtjoiflokekebkaaGreatDoor

def IsB (t : Tk) : Prop := (t.k = 1 ∨ t.k = 3) ∧ t.s = brace
def EndB {α : Type} (p : Ps α) : Prop := ∀ (ts : List Tk) (x : α) (r : List Tk), p ts = .ok (x, r) → ∃ pre b, ts = pre ++ b :: r ∧ IsB b
theorem bytes_same {a b : ByteArray} (h : (a.toList == b.toList) = true) : a.toList = b.toList := by simpa using h
theorem isW_brace {ts : List Tk} (h : isW brace ts = true) : ∃ b r, ts = b :: r ∧ IsB b := by
  cases ts with
  | nil => simp [isW, hd] at h
  | cons b r =>
    refine ⟨b, r, rfl, ?_⟩
    simp only [isW, hd, List.headD_cons, Bool.and_eq_true, Bool.or_eq_true, decide_eq_true_eq] at h
    refine ⟨h.1.imp of_decide_eq_true of_decide_eq_true, ?_⟩
    have h2 := bytes_same h.2
    rw [ByteArray.toList_eq, ByteArray.toList_eq] at h2
    exact bytes_eq h2
section
variable {α β : Type}
theorem EndB.must : EndB (must brace) := fun ts x r h => by
  unfold Go.Proofs.YtjoiflokekebkaaGreatDoor.must at h
  split at h
  · rename_i hw
    injection h with h
    injection h with _ h
    obtain ⟨b, r', rfl, hb⟩ := isW_brace hw
    exact ⟨[], b, by rw [← h]; rfl, hb⟩
  · cases h
theorem EndB.stp (e : Int) : EndB (stp e : Ps α) := fun ts x r h => by cases h
theorem EndB.bd {p : Ps α} {f : α → Ps β} (hp : Le p) (hf : ∀ x, EndB (f x)) : EndB (p.bd f) := fun ts y r h => by
  obtain ⟨x, us, h1, h2⟩ := bd_split h
  obtain ⟨q, rfl⟩ := hp _ _ _ h1
  obtain ⟨pre, b, rfl, hb⟩ := hf x _ _ _ h2
  exact ⟨q ++ pre, b, by simp, hb⟩
theorem EndB.ret {p : Ps α} {g : α → β} (hp : EndB p) : EndB (p.bd fun x => Ps.ret (g x)) := fun ts y r h => by
  obtain ⟨x, us, h1, h2⟩ := bd_split h
  injection h2 with h2
  injection h2 with _ h2
  subst h2
  exact hp _ _ _ h1
theorem EndB.optE {s : ByteArray} {p q : Ps α} (hp : EndB p) (hq : EndB q) : EndB (optE s p q) := fun ts y r h => by
  unfold Go.Proofs.YtjoiflokekebkaaGreatDoor.optE at h
  split at h
  · rename_i hw
    obtain ⟨pre, b, h1, hb⟩ := hp _ _ _ h
    cases ts with
    | nil => simp at h1
    | cons a ts =>
      simp at h1
      exact ⟨a :: pre, b, by rw [h1]; rfl, hb⟩
  · exact hq _ _ _ h
theorem EndB.optB {x : α} {q : Ps α} (hq : EndB q) : EndB (Go.Proofs.YtjoiflokekebkaaGreatDoor.optE brace (Ps.ret x) q) := fun ts y r h => by
  unfold Go.Proofs.YtjoiflokekebkaaGreatDoor.optE at h
  split at h
  · rename_i hw
    injection h with h
    injection h with _ h
    obtain ⟨b, r', rfl, hb⟩ := isW_brace hw
    exact ⟨[], b, by rw [← h]; rfl, hb⟩
  · exact hq _ _ _ h
theorem EndB.at_ {f : List Tk → Ps α} (h : ∀ us, EndB (f us)) : EndB (fun ts => f ts ts) := fun ts y r e => h ts ts y r e
theorem EndB.more {read : Ps α} (hr : Le read) : ∀ n, EndB (moreP brace read n)
  | 0 => EndB.stp _
  | n + 1 => EndB.optE (EndB.bd hr fun _ => EndB.ret (EndB.more hr n)) (EndB.ret EndB.must)
theorem EndB.list {read : Ps α} (hr : Le read) : EndB (listP brace read) :=
  EndB.optB (EndB.bd hr fun _ => EndB.at_ (f := fun us => (moreP brace read (us.length + 1)).bd _) fun us => EndB.ret (EndB.more hr _))
end
theorem EndB.stmts {blk : Ps (List Stm)} (hb : Le blk) : ∀ n, EndB (stmtsP blk n)
  | 0 => EndB.stp _
  | n + 1 => EndB.optB (EndB.bd (Lt.stmt hb).le fun _ => EndB.ret (EndB.stmts hb n))
theorem EndB.block : ∀ k, EndB (blockP k)
  | 0 => fun ts y r h => by
    simp only [blockP] at h
    split at h <;> cases h
  | k + 1 => EndB.bd (Lt.must _).le fun _ => EndB.at_ (f := fun us => stmtsP (blockP k) (us.length + 1)) fun us => EndB.stmts (Le.block k) _
theorem EndB.struct (d : Bool) (a : Int) : EndB (structP d a) := EndB.bd (Lt.must _).le fun _ => EndB.bd (Lt.name _).le fun _ => EndB.bd (Lt.must _).le fun _ => EndB.ret (EndB.list Lt.field.le)
theorem EndB.enum (a : Int) : EndB (enumP a) := EndB.bd (Lt.name _).le fun _ => EndB.bd (Lt.must _).le fun _ => EndB.ret (EndB.list Lt.variant.le)
theorem EndB.fn (a : Int) : EndB (fnP a) := EndB.bd (Lt.must _).le fun _ => EndB.bd (Lt.name _).le fun _ => EndB.bd (Lt.must _).le fun _ => EndB.bd (Lt.list Lt.field.le).le fun _ => EndB.ret (EndB.block _)
theorem EndB.itemQ (s : Src) (a : Int) : EndB (itemQ s a) := EndB.optE (EndB.ret (EndB.struct _ _)) fun us y r h => by
  split at h
  · exact EndB.ret (EndB.struct _ _) us y r h
  · exact EndB.optE (EndB.ret (EndB.enum _)) (EndB.ret (EndB.fn _)) us y r h
theorem EndB.item (s : Src) : EndB (itemP s) := fun ts x r h => EndB.itemQ s (hd ts).at_ ts x r h
theorem items_end : ∀ (n : Nat) (s : Src) (ts : List Tk) (v : Src) (r : List Tk), itemsP n s ts = .ok (v, r) → (hd r).k = 0 ∧ (ts = r ∨ ∃ pre b, ts = pre ++ b :: r ∧ IsB b)
  | 0, _, _, _, _, h => by cases h
  | n + 1, s, ts, v, r, h => by
    simp only [itemsP] at h
    split at h
    · rename_i hk
      injection h with h
      injection h with _ h
      subst h
      exact ⟨hk, .inl rfl⟩
    · obtain ⟨x, us, h1, h2⟩ := bd_split h
      obtain ⟨pre, b, rfl, hb⟩ := EndB.item s _ _ _ h1
      obtain ⟨h3, h4⟩ := items_end n x us v r h2
      refine ⟨h3, .inr ?_⟩
      rcases h4 with rfl | ⟨pre2, b2, rfl, hb2⟩
      · exact ⟨pre, b, rfl, hb⟩
      · exact ⟨pre ++ b :: pre2, b2, by simp, hb2⟩
end Go.Proofs.YtjoiflokekebkaaGreatDoor
end

section
/- Plain: the tokens of a text that is cut off ahead of a token. -/
namespace Go.Proofs.YtjoiflokekebkaaGreatDoor

theorem prefix_take {l : List UInt8} {a b : UInt8} {m : Nat} (h : Lib.hasPrefix (l.take m) [a, b] = true) : Lib.hasPrefix l [a, b] = true := by
  obtain ⟨r, hr⟩ := List.isPrefixOf_iff_prefix.1 h
  refine List.isPrefixOf_iff_prefix.2 ⟨r ++ l.drop m, ?_⟩
  rw [← List.append_assoc, hr, List.take_append_drop]
theorem prefix_take2 {l : List UInt8} {a b : UInt8} {m : Nat} (hm : 2 ≤ m) : Lib.hasPrefix (l.take m) [a, b] = Lib.hasPrefix l [a, b] := by
  obtain ⟨m, rfl⟩ : ∃ k, m = k + 2 := ⟨m - 2, by omega⟩
  match l with
  | [] => simp [Lib.hasPrefix]
  | [c] => simp [Lib.hasPrefix, List.isPrefixOf]
  | c :: d :: r => simp [Lib.hasPrefix, List.isPrefixOf]
theorem head_take {l : List UInt8} {m : Nat} (hm : 0 < m) : (l.take m).head? = l.head? := by
  obtain ⟨m, rfl⟩ : ∃ k, m = k + 1 := ⟨m - 1, by omega⟩
  cases l <;> rfl
theorem passed_pos {l : List UInt8} {m : Nat} (h : 0 < passedN (l.take m)) : 0 < passedN l := by
  have hm : 0 < m := by
    cases m with
    | zero => simp [passedN, Lib.hasPrefix] at h
    | succ m => omega
  unfold passedN at h ⊢
  split at h
  · rename_i hp
    rw [if_pos (prefix_take hp)]
    obtain ⟨r, rfl⟩ := List.isPrefixOf_iff_prefix.1 (prefix_take hp)
    exact run_pos (by decide)
  · split at h
    · rename_i hb
      rw [head_take hm] at hb
      split
      · rename_i hq
        obtain ⟨r, rfl⟩ := List.isPrefixOf_iff_prefix.1 hq
        exact run_pos (by decide)
      · first | (rw [if_pos hb]; omega) | omega
    · omega
theorem sign_take {l : List UInt8} {m : Nat} (h : signLen l ≤ m) (h0 : 0 < m) : signLen (l.take m) = signLen l := by
  unfold signLen at h ⊢
  rw [head_take h0]
  by_cases h2 : (twoSigns.any fun p => Lib.hasPrefix l p) = true
  · rw [if_pos h2] at h ⊢
    rw [if_pos]
    rw [List.any_eq_true] at h2 ⊢
    obtain ⟨p, hp, hq⟩ := h2
    refine ⟨p, hp, ?_⟩
    simp [twoSigns] at hp
    rcases hp with rfl | rfl | rfl | rfl <;> rw [prefix_take2 h] <;> exact hq
  · rw [if_neg h2]
    rw [if_neg]
    intro h3
    apply h2
    rw [List.any_eq_true] at h3 ⊢
    obtain ⟨p, hp, hq⟩ := h3
    refine ⟨p, hp, ?_⟩
    simp [twoSigns] at hp
    rcases hp with rfl | rfl | rfl | rfl <;> exact prefix_take hq
theorem piece_tok_take {l : List UInt8} {k : Int} {n m : Nat} {v : Int} (h : piece l = .tok k n v) (hm : n ≤ m) : piece (l.take m) = .tok k n v := by
  have hn := piece_tok h
  have hz : ¬ 0 < passedN l := by
    intro hp
    rw [piece, if_pos hp] at h
    cases h
  rw [piece, if_neg hz] at h
  rw [piece, if_neg (fun q => hz (passed_pos q))]
  have h1 := (next_le h).1
  obtain ⟨m, rfl⟩ : ∃ j, m = j + 1 := ⟨m - 1, by omega⟩
  cases l with
  | nil => simp [nextP] at h
  | cons c r =>
    have e : (c :: r).take (m + 1) = c :: r.take m := rfl
    rw [e]
    unfold nextP at h ⊢
    simp only at h ⊢
    rw [← e]
    split at h
    · rename_i hl
      rw [if_pos hl]
      split at h
      · cases h
      · rename_i h24
        injection h with h2 h3 h4
        rw [run_take (by omega), if_neg h24, h2, h3, h4]
    · rename_i hl
      rw [if_neg hl]
      split at h
      · rename_i hd
        rw [if_pos hd]
        split at h
        · cases h
        · rename_i hv
          injection h with h2 h3 h4
          rw [run_take (by omega)]
          have ht : ((c :: r).take (m + 1)).take (run isD (c :: r)) = (c :: r).take (run isD (c :: r)) := by rw [List.take_take]; congr 1; omega
          rw [ht, if_neg hv, h2, ← h4, h3]
      · rename_i hd
        rw [if_neg hd]
        split at h
        · cases h
        · rename_i hs
          injection h with h2 h3 h4
          rw [sign_take (by omega) (by omega), if_neg hs, h2, h3, h4]
theorem from_ge (s : ByteArray) : ∀ (k a : Nat), s.size - a ≤ k → a ≤ s.size → ∀ l, lexFrom s a = .ok l → ∀ t ∈ l, ∃ p : Nat, t.at_ = p ∧ a ≤ p ∧ p ≤ s.size := by
  intro k
  induction k with
  | zero =>
    intro a hk ha l hl t ht
    rw [lex_end (by omega)] at hl
    injection hl with hl
    rw [← hl] at ht
    simp at ht
    subst ht
    exact ⟨s.size, rfl, by omega, Nat.le_refl _⟩
  | succ k ih =>
    intro a hk ha l hl t ht
    obtain ⟨p, x, r, rfl, h2, h3, h4⟩ := from_head s _ a (Nat.le_refl _) ha l hl
    have hle := h2.le
    rcases h4 with ⟨rfl, rfl, rfl⟩ | ⟨kd, n, v, h4, h5, h6, h7, rfl, h9⟩
    · simp at ht
      subst ht
      exact ⟨s.size, rfl, hle, Nat.le_refl _⟩
    · rcases List.mem_cons.1 ht with rfl | ht
      · exact ⟨p, rfl, hle, h3⟩
      · obtain ⟨q, h10, h11, h12⟩ := ih (p + n) (by omega) h6 r h9 t ht
        exact ⟨q, h10, by omega, h12⟩
theorem drop_cut (s : ByteArray) (p a : Nat) : (s.extract 0 p).data.toList.drop a = (s.data.toList.drop a).take (p - a) := by
  simp [List.drop_take]
/-- The tokens of a text that is cut off where one of its tokens begins. -/
theorem from_cut (s : ByteArray) (p : Nat) (hp : p ≤ s.size) : ∀ (k a : Nat), s.size - a ≤ k → a ≤ s.size → ∀ (l : List Tk) (j : Nat) (t : Tk), lexFrom s a = .ok l → l[j]? = some t → t.at_ = (p : Int) →
    lexFrom (s.extract 0 p) a = .ok (l.take j ++ [⟨0, ⟨#[]⟩, 0, p⟩]) := by
  have hcs : (s.extract 0 p).size = p := by simp; omega
  intro k
  induction k with
  | zero =>
    intro a hk ha l j t hl hj ht
    rw [lex_end (by omega)] at hl
    injection hl with hl
    subst hl
    cases j with
    | zero =>
      simp at hj
      subst hj
      simp at ht
      rw [lex_end (by omega), hcs]
      rfl
    | succ j => simp at hj
  | succ k ih =>
    intro a hk ha l j t hl hj ht
    obtain ⟨q, hq1, hq2, _⟩ := from_ge s _ a (Nat.le_refl _) ha l hl t (List.mem_of_getElem? hj)
    have hqp : q = p := by omega
    subst hqp
    by_cases has : a < s.size
    · cases hpc : piece (s.data.toList.drop a) with
      | bad e => rw [lex_bad has hpc] at hl; cases hl
      | skip n =>
        have hn := piece_skip hpc
        have hl' := hl
        rw [lex_skip has hpc] at hl'
        have hle : a + n ≤ s.size := piece_len hn.2 ha
        obtain ⟨q', h1, h2, _⟩ := from_ge s _ (a + n) (Nat.le_refl _) hle l hl' t (List.mem_of_getElem? hj)
        have hac : a < (s.extract 0 q).size := by have := (piece_passed hpc).2; omega
        rw [lex_skip hac (by rw [drop_cut]; exact piece_take hpc (by omega))]
        exact ih (a + n) (by have := (piece_passed hpc).2; omega) hle l j t hl' hj ht
      | tok kd n v =>
        have hn := piece_tok hpc
        have hl' := hl
        rw [lex_tok has hpc] at hl'
        cases hr : lexFrom s (a + n) with
        | error e => rw [hr] at hl'; cases hl'
        | ok r =>
          rw [hr] at hl'
          simp only [Except.map] at hl'
          injection hl' with hl'
          subst hl'
          have hle : a + n ≤ s.size := piece_len hn.2 ha
          cases j with
          | zero =>
            simp at hj
            subst hj
            obtain rfl : a = q := by simp at hq1; omega
            rw [lex_end (by omega), hcs]
            rfl
          | succ j =>
            simp at hj
            obtain ⟨q', h1, h2, _⟩ := from_ge s _ (a + n) (Nat.le_refl _) hle r hr t (List.mem_of_getElem? hj)
            have hac : a < (s.extract 0 q).size := by omega
            rw [lex_tok hac (by rw [drop_cut]; exact piece_tok_take hpc (by omega)), ih (a + n) (by omega) hle r j t hr hj ht]
            simp only [Except.map, List.take_succ_cons, List.cons_append]
            rw [show (s.extract 0 q).extract a (a + n) = s.extract a (a + n) from by
              apply bytes_eq
              simp [List.drop_take, List.take_take]
              omega]
    · rw [lex_end has] at hl
      injection hl with hl
      subst hl
      cases j with
      | zero =>
        simp at hj
        subst hj
        simp at ht
        rw [lex_end (by omega), hcs]
        rfl
      | succ j => simp at hj
end Go.Proofs.YtjoiflokekebkaaGreatDoor
end

section
/- A text that is cut off ahead of its last token (plain). -/
namespace Go.Proofs.YtjoiflokekebkaaGreatDoor

theorem piece_one {l : List UInt8} {n : Nat} {v : Int} (h : piece l = .tok 1 n v) : ∃ c r, l = c :: r ∧ isL c = true := by
  unfold piece at h
  split at h
  · cases h
  · unfold nextP at h
    split at h
    · cases h
    · rename_i c r _
      split at h
      · rename_i hc
        exact ⟨c, r, rfl, hc⟩
      · split at h
        · split at h
          · cases h
          · injection h with h; omega
        · split at h
          · cases h
          · injection h with h; omega
theorem from_kind (s : ByteArray) : ∀ (k a : Nat), s.size - a ≤ k → a ≤ s.size → ∀ l, lexFrom s a = .ok l →
    ∀ (i : Nat) (t : Tk), l[i]? = some t → i + 1 < l.length → (t.k = 1 ∨ t.k = 2 ∨ t.k = 3) ∧ (t.k = 1 → t.s ≠ brace) := by
  intro k
  induction k with
  | zero =>
    intro a hk ha l hl i t h hi
    rw [lex_end (by omega)] at hl
    injection hl with hl
    subst hl
    simp at hi
  | succ k ih =>
    intro a hk ha l hl i t h hi
    obtain ⟨p, x, r, rfl, h2, h3, h4⟩ := from_head s _ a (Nat.le_refl _) ha l hl
    have hle := h2.le
    rcases h4 with ⟨rfl, rfl, rfl⟩ | ⟨kd, n, v, h4, h5, h6, h7, rfl, h9⟩
    · simp at hi
    · cases i with
      | zero =>
        simp at h
        subst h
        refine ⟨piece_kind h5, fun hk1 hb => ?_⟩
        simp only at hk1 hb
        subst hk1
        obtain ⟨c, r', hcr, hc⟩ := piece_one h5
        have h8 := congrArg (fun b => b.data.toList) hb
        simp only [ByteArray.data_extract, Array.toList_extract, brace] at h8
        have h10 : p < s.data.toList.length := by rw [bsize]; omega
        simp only [List.extract_eq_take_drop, List.drop_take, hcr] at h8
        rw [show p + n - p = (n - 1) + 1 by omega, List.take_succ_cons] at h8
        injection h8 with h8 _
        rw [h8] at hc
        exact absurd hc (by decide)
      | succ i =>
        simp at h hi
        exact ih (p + n) (by omega) h6 r h9 i t h (by omega)
/-- A text that is read whole, cut off ahead of its last token, is not. -/
theorem cuts {s : ByteArray} {l : List Tk} {x : Src} {us : List Tk} (h : lexB s = .ok l) (hx : itemsP (l.length + 1) .zero l = .ok (x, us)) (h2 : 2 ≤ l.length) :
    ∃ (t : Tk) (p : Nat), l[l.length - 2]? = some t ∧ t.s = brace ∧ t.at_ = p ∧ p ≤ s.size ∧ parseB (s.extract 0 p) = .error (60, p) := by
  obtain ⟨hT, hsz⟩ := lexB_toks h
  have hl : lexFrom s 0 = .ok l := by rw [lexB, if_neg (by omega)] at h; exact h
  have hK := from_kind s _ 0 (Nat.le_refl _) (Nat.zero_le _) l hl
  obtain ⟨hk, he⟩ := items_end _ _ _ _ _ hx
  have hlast : ∀ (z : Tk) (i : Nat), l[i]? = some z → z.k = 0 → i + 1 = l.length := fun z i hz h0 => by
    have hi : i < l.length := (List.getElem?_eq_some_iff.1 hz).1
    by_cases hlt : i + 1 < l.length
    · have := (hK i z hz hlt).1; omega
    · omega
  rcases he with rfl | ⟨pre, b, rfl, hb⟩
  · cases l with
    | nil => simp at h2
    | cons z r => have h3 := hlast z 0 rfl (by simpa [hd] using hk); omega
  · cases us with
    | nil =>
      have := hT.fin pre.length b (by simp) (by have := hb.1; omega)
      simp at this
    | cons z r =>
      have h3 := hlast z (pre.length + 1) (by simp) (by simpa [hd] using hk)
      rw [List.length_append, List.length_cons, List.length_cons] at h3
      have hr : r = [] := List.length_eq_zero_iff.1 (by omega)
      subst hr
      have hlen : (pre ++ [b, z]).length = pre.length + 2 := by simp
      have hget : (pre ++ [b, z])[pre.length]? = some b := by simp
      have hbk : b.k = 3 := by
        have := hK pre.length b hget (by omega)
        rcases hb.1 with h1 | h1
        · exact absurd hb.2 (this.2 h1)
        · exact h1
      obtain ⟨p, hp, hps⟩ := from_at s _ 0 (Nat.le_refl _) (Nat.zero_le _) _ hl b (by simp)
      have hcut := from_cut s p hps _ 0 (Nat.le_refl _) (Nat.zero_le _) _ pre.length b hl hget hp
      refine ⟨b, p, by rw [hlen]; exact hget, hb.2, hp, hps, ?_⟩
      have hcs : (s.extract 0 p).size = p := by simp; omega
      have hlc : lexB (s.extract 0 p) = .ok (pre ++ [⟨0, ⟨#[]⟩, 0, p⟩]) := by
        rw [lexB, if_neg (by omega), hcut]
        simp
      have hpk : ∀ a ∈ pre, a.k ≠ 0 := fun a ha h0 => by
        obtain ⟨i, hi, hia⟩ := List.getElem_of_mem ha
        have := hlast a i (by rw [List.getElem?_append_left hi]; rw [List.getElem?_eq_getElem hi, hia]) h0
        omega
      have h4 := items_cut _ _ _ _ _ ⟨0, ⟨#[]⟩, 0, p⟩ _ _ ⟨hbk, hb.2⟩ (by simpa [hd] using hk) rfl hpk hx
      have h5 := items_fuel ((pre ++ [b, z]).length + 1) ((pre ++ [(⟨0, ⟨#[]⟩, 0, p⟩ : Tk)]).length + 1) .zero (pre ++ [⟨0, ⟨#[]⟩, 0, p⟩]) (by first | (simp; done) | (simp; omega)) (by simp)
      rw [parseB, hlc]
      simp only
      rw [← h5, h4]
end Go.Proofs.YtjoiflokekebkaaGreatDoor
end

section
/- No error of a text is 0 (plain). -/
namespace Go.Proofs.YtjoiflokekebkaaGreatDoor

section
variable {α β : Type}
def Nz (p : Ps α) : Prop := ∀ (ts : List Tk) (e i : Int), p ts = .error (e, i) → e ≠ 0
theorem Nz.ret (x : α) : Nz (Ps.ret x) := fun ts e i h => by cases h
theorem Nz.stp {k : Int} (hk : k ≠ 0) : Nz (stp k : Ps α) := fun ts e i h => by injection h with h; injection h with h _; omega
theorem Nz.must (s : ByteArray) : Nz (must s) := fun ts e i h => by
  unfold Go.Proofs.YtjoiflokekebkaaGreatDoor.must at h
  split at h
  · cases h
  · injection h with h; injection h with h _; omega
theorem Nz.name (g : Bool) : Nz (name g) := fun ts e i h => by
  unfold Go.Proofs.YtjoiflokekebkaaGreatDoor.name at h
  split at h
  · cases h
  · injection h with h; injection h with h _; omega
theorem Nz.bd {p : Ps α} {f : α → Ps β} (hp : Nz p) (hf : ∀ x, Nz (f x)) : Nz (p.bd f) := fun ts e i h => by
  unfold Ps.bd at h
  split at h
  · rename_i e' hx
    injection h with h
    subst h
    exact hp _ _ _ hx
  · exact hf _ _ _ _ h
theorem Nz.optE {s : ByteArray} {p q : Ps α} (hp : Nz p) (hq : Nz q) : Nz (optE s p q) := fun ts e i h => by
  unfold Go.Proofs.YtjoiflokekebkaaGreatDoor.optE at h
  split at h
  · exact hp _ _ _ h
  · exact hq _ _ _ h
theorem Nz.numE {p : Int → Ps α} {q : Ps α} (hp : ∀ n, Nz (p n)) (hq : Nz q) : Nz (numE p q) := fun ts e i h => by
  unfold Go.Proofs.YtjoiflokekebkaaGreatDoor.numE at h
  split at h
  · exact hp _ _ _ _ h
  · exact hq _ _ _ h
theorem Nz.greatE {p q : Ps α} (hp : Nz p) (hq : Nz q) : Nz (greatE p q) := fun ts e i h => by
  unfold Go.Proofs.YtjoiflokekebkaaGreatDoor.greatE at h
  split at h
  · exact hp _ _ _ h
  · exact hq _ _ _ h
theorem Nz.at_ {f : List Tk → Ps α} (h : ∀ us, Nz (f us)) : Nz (fun us => f us us) := fun ts e i h1 => h ts ts e i h1
theorem Nz.more {fin : ByteArray} {p : Ps α} (hp : Nz p) : ∀ n, Nz (moreP fin p n)
  | 0 => Nz.stp (by decide)
  | n + 1 => Nz.optE (Nz.bd hp fun _ => Nz.bd (Nz.more hp n) fun _ => Nz.ret _) (Nz.bd (Nz.must _) fun _ => Nz.ret _)
theorem Nz.list {fin : ByteArray} {p : Ps α} (hp : Nz p) : Nz (listP fin p) :=
  Nz.optE (Nz.ret _) (Nz.bd hp fun x => Nz.at_ (f := fun ts => (moreP fin p (ts.length + 1)).bd fun l => Ps.ret (x :: l)) fun _ => Nz.bd (Nz.more hp _) fun _ => Nz.ret _)
end
theorem Nz.ty : ∀ k, Nz (tyP k)
  | 0 => Nz.stp (by decide)
  | k + 1 => by
    have ih := Nz.ty k
    unfold tyP
    repeat (first | assumption | with_reducible exact Nz.ret _ | with_reducible exact Nz.must _ | with_reducible exact Nz.name _ | with_reducible exact Nz.stp (by decide) | with_reducible refine Nz.bd ?_ ?_ | with_reducible refine Nz.optE ?_ ?_ | with_reducible refine Nz.numE ?_ ?_ | with_reducible refine Nz.greatE ?_ ?_ | with_reducible refine Nz.list ?_ | with_reducible intro _)
theorem Nz.field : Nz fieldP := by
  unfold fieldP
  repeat (first | assumption | with_reducible exact Nz.ret _ | with_reducible exact Nz.must _ | with_reducible exact Nz.name _ | with_reducible exact Nz.stp (by decide) | with_reducible exact Nz.ty _ | with_reducible refine Nz.bd ?_ ?_ | with_reducible refine Nz.optE ?_ ?_ | with_reducible refine Nz.numE ?_ ?_ | with_reducible refine Nz.greatE ?_ ?_ | with_reducible refine Nz.list ?_ | with_reducible intro _)
theorem Nz.variant : Nz variantP := by
  unfold variantP
  repeat (first | assumption | with_reducible exact Nz.ret _ | with_reducible exact Nz.must _ | with_reducible exact Nz.name _ | with_reducible exact Nz.stp (by decide) | with_reducible exact Nz.ty _ | with_reducible exact Nz.field | with_reducible refine Nz.bd ?_ ?_ | with_reducible refine Nz.optE ?_ ?_ | with_reducible refine Nz.numE ?_ ?_ | with_reducible refine Nz.greatE ?_ ?_ | with_reducible refine Nz.list ?_ | with_reducible intro _)
theorem Nz.steps : ∀ n, Nz (stepsP n)
  | 0 => Nz.stp (by decide)
  | n + 1 => by
    have ih := Nz.steps n
    unfold stepsP
    repeat (first | assumption | with_reducible exact Nz.ret _ | with_reducible exact Nz.must _ | with_reducible exact Nz.name _ | with_reducible exact Nz.stp (by decide) | with_reducible exact Nz.ty _ | with_reducible exact Nz.field | with_reducible exact Nz.variant | with_reducible refine Nz.bd ?_ ?_ | with_reducible refine Nz.optE ?_ ?_ | with_reducible refine Nz.numE ?_ ?_ | with_reducible refine Nz.greatE ?_ ?_ | with_reducible refine Nz.list ?_ | with_reducible intro _)
theorem Nz.place : Nz placeP := Nz.bd (Nz.name _) fun n => Nz.at_ (f := fun ts => (stepsP (ts.length + 1)).bd fun l => Ps.ret (⟨n, l⟩ : Plc)) fun _ => Nz.bd (Nz.steps _) fun _ => Nz.ret _
theorem Nz.bare : Nz bareP := by
  unfold bareP
  repeat (first | assumption | with_reducible exact Nz.ret _ | with_reducible exact Nz.must _ | with_reducible exact Nz.name _ | with_reducible exact Nz.stp (by decide) | with_reducible exact Nz.ty _ | with_reducible exact Nz.field | with_reducible exact Nz.variant | with_reducible exact Nz.place | with_reducible refine Nz.bd ?_ ?_ | with_reducible refine Nz.optE ?_ ?_ | with_reducible refine Nz.numE ?_ ?_ | with_reducible refine Nz.greatE ?_ ?_ | with_reducible refine Nz.list ?_ | with_reducible intro _)
theorem Nz.oper : Nz operP := by
  unfold operP
  repeat (first | assumption | with_reducible exact Nz.ret _ | with_reducible exact Nz.must _ | with_reducible exact Nz.name _ | with_reducible exact Nz.stp (by decide) | with_reducible exact Nz.ty _ | with_reducible exact Nz.field | with_reducible exact Nz.variant | with_reducible exact Nz.place | with_reducible exact Nz.bare | with_reducible refine Nz.bd ?_ ?_ | with_reducible refine Nz.optE ?_ ?_ | with_reducible refine Nz.numE ?_ ?_ | with_reducible refine Nz.greatE ?_ ?_ | with_reducible refine Nz.list ?_ | with_reducible intro _)
theorem Nz.args : Nz argsP := by
  unfold argsP
  repeat (first | assumption | with_reducible exact Nz.ret _ | with_reducible exact Nz.must _ | with_reducible exact Nz.name _ | with_reducible exact Nz.stp (by decide) | with_reducible exact Nz.ty _ | with_reducible exact Nz.field | with_reducible exact Nz.variant | with_reducible exact Nz.place | with_reducible exact Nz.bare | with_reducible exact Nz.oper | with_reducible refine Nz.bd ?_ ?_ | with_reducible refine Nz.optE ?_ ?_ | with_reducible refine Nz.numE ?_ ?_ | with_reducible refine Nz.greatE ?_ ?_ | with_reducible refine Nz.list ?_ | with_reducible intro _)
theorem Nz.made : Nz madeP := by
  unfold madeP
  repeat (first | assumption | with_reducible exact Nz.ret _ | with_reducible exact Nz.must _ | with_reducible exact Nz.name _ | with_reducible exact Nz.stp (by decide) | with_reducible exact Nz.ty _ | with_reducible exact Nz.field | with_reducible exact Nz.variant | with_reducible exact Nz.place | with_reducible exact Nz.bare | with_reducible exact Nz.oper | with_reducible exact Nz.args | with_reducible refine Nz.bd ?_ ?_ | with_reducible refine Nz.optE ?_ ?_ | with_reducible refine Nz.numE ?_ ?_ | with_reducible refine Nz.greatE ?_ ?_ | with_reducible refine Nz.list ?_ | with_reducible intro _)
theorem Nz.signE (a : Opr) (k : Int) : Nz (signE a k) := Nz.bd Nz.oper fun _ => Nz.ret _
theorem Nz.set : Nz setP := by
  unfold setP
  repeat (first | assumption | with_reducible exact Nz.ret _ | with_reducible exact Nz.must _ | with_reducible exact Nz.name _ | with_reducible exact Nz.stp (by decide) | with_reducible exact Nz.ty _ | with_reducible exact Nz.field | with_reducible exact Nz.variant | with_reducible exact Nz.place | with_reducible exact Nz.bare | with_reducible exact Nz.oper | with_reducible exact Nz.args | with_reducible exact Nz.made | with_reducible exact Nz.signE _ _ | with_reducible refine Nz.bd ?_ ?_ | with_reducible refine Nz.optE ?_ ?_ | with_reducible refine Nz.numE ?_ ?_ | with_reducible refine Nz.greatE ?_ ?_ | with_reducible refine Nz.list ?_ | with_reducible intro _)
theorem Nz.simple (a : Int) : Nz (simpleP a) := by
  unfold simpleP
  repeat (first | assumption | with_reducible exact Nz.ret _ | with_reducible exact Nz.must _ | with_reducible exact Nz.name _ | with_reducible exact Nz.stp (by decide) | with_reducible exact Nz.ty _ | with_reducible exact Nz.field | with_reducible exact Nz.variant | with_reducible exact Nz.place | with_reducible exact Nz.bare | with_reducible exact Nz.oper | with_reducible exact Nz.args | with_reducible exact Nz.made | with_reducible exact Nz.signE _ _ | with_reducible exact Nz.set | with_reducible refine Nz.bd ?_ ?_ | with_reducible refine Nz.optE ?_ ?_ | with_reducible refine Nz.numE ?_ ?_ | with_reducible refine Nz.greatE ?_ ?_ | with_reducible refine Nz.list ?_ | with_reducible intro _)
section
variable {blk : Ps (List Stm)} (hb : Nz blk)
include hb
theorem Nz.arm : Nz (armP blk) := by
  unfold armP
  repeat (first | assumption | with_reducible exact Nz.ret _ | with_reducible exact Nz.must _ | with_reducible exact Nz.name _ | with_reducible exact Nz.stp (by decide) | with_reducible exact Nz.ty _ | with_reducible exact Nz.field | with_reducible exact Nz.variant | with_reducible exact Nz.place | with_reducible exact Nz.bare | with_reducible exact Nz.oper | with_reducible exact Nz.args | with_reducible exact Nz.made | with_reducible exact Nz.signE _ _ | with_reducible exact Nz.set | with_reducible exact Nz.simple _ | with_reducible refine Nz.bd ?_ ?_ | with_reducible refine Nz.optE ?_ ?_ | with_reducible refine Nz.numE ?_ ?_ | with_reducible refine Nz.greatE ?_ ?_ | with_reducible refine Nz.list ?_ | with_reducible intro _)
theorem Nz.arms : ∀ n, Nz (armsP blk n)
  | 0 => Nz.stp (by decide)
  | n + 1 => Nz.optE (Nz.ret _) (Nz.bd (Nz.arm hb) fun _ => Nz.bd (Nz.arms n) fun _ => Nz.ret _)
theorem Nz.stmtQ (a : Int) : Nz (stmtQ blk a) :=
  Nz.optE (Nz.bd Nz.oper fun _ => Nz.bd hb fun _ => Nz.optE (Nz.bd hb fun _ => Nz.ret _) (Nz.ret _)) <|
  Nz.optE (Nz.bd Nz.oper fun _ => Nz.bd hb fun _ => Nz.ret _) <|
  Nz.optE (Nz.bd Nz.bare fun _ => Nz.bd (Nz.must _) fun _ => Nz.at_ (f := fun us => (armsP blk (us.length + 1)).bd _) fun us => Nz.bd (Nz.arms hb _) fun _ => Nz.ret _) <|
  Nz.bd (Nz.simple _) fun _ => Nz.bd (Nz.must _) fun _ => Nz.ret _
theorem Nz.stmt : Nz (stmtP blk) := fun ts e i h => Nz.stmtQ hb (hd ts).at_ ts e i h
theorem Nz.stmts : ∀ n, Nz (stmtsP blk n)
  | 0 => Nz.stp (by decide)
  | n + 1 => Nz.optE (Nz.ret _) (Nz.bd (Nz.stmt hb) fun _ => Nz.bd (Nz.stmts n) fun _ => Nz.ret _)
end
theorem Nz.block : ∀ k, Nz (blockP k)
  | 0 => fun ts e i h => by
    simp only [blockP] at h
    split at h <;> (injection h with h; injection h with h _; omega)
  | k + 1 => Nz.bd (Nz.must _) fun _ => Nz.at_ (f := fun us => stmtsP (blockP k) (us.length + 1)) fun us => Nz.stmts (Nz.block k) _
theorem Nz.struct (d : Bool) (a : Int) : Nz (structP d a) := by
  unfold structP
  repeat (first | assumption | with_reducible exact Nz.ret _ | with_reducible exact Nz.must _ | with_reducible exact Nz.name _ | with_reducible exact Nz.stp (by decide) | with_reducible exact Nz.ty _ | with_reducible exact Nz.field | with_reducible exact Nz.variant | with_reducible exact Nz.place | with_reducible exact Nz.bare | with_reducible exact Nz.oper | with_reducible exact Nz.args | with_reducible exact Nz.made | with_reducible exact Nz.signE _ _ | with_reducible exact Nz.set | with_reducible exact Nz.simple _ | with_reducible exact Nz.block _ | with_reducible refine Nz.bd ?_ ?_ | with_reducible refine Nz.optE ?_ ?_ | with_reducible refine Nz.numE ?_ ?_ | with_reducible refine Nz.greatE ?_ ?_ | with_reducible refine Nz.list ?_ | with_reducible intro _)
theorem Nz.enum (a : Int) : Nz (enumP a) := by
  unfold enumP
  repeat (first | assumption | with_reducible exact Nz.ret _ | with_reducible exact Nz.must _ | with_reducible exact Nz.name _ | with_reducible exact Nz.stp (by decide) | with_reducible exact Nz.ty _ | with_reducible exact Nz.field | with_reducible exact Nz.variant | with_reducible exact Nz.place | with_reducible exact Nz.bare | with_reducible exact Nz.oper | with_reducible exact Nz.args | with_reducible exact Nz.made | with_reducible exact Nz.signE _ _ | with_reducible exact Nz.set | with_reducible exact Nz.simple _ | with_reducible exact Nz.block _ | with_reducible refine Nz.bd ?_ ?_ | with_reducible refine Nz.optE ?_ ?_ | with_reducible refine Nz.numE ?_ ?_ | with_reducible refine Nz.greatE ?_ ?_ | with_reducible refine Nz.list ?_ | with_reducible intro _)
theorem Nz.fn (a : Int) : Nz (fnP a) := by
  unfold fnP
  repeat (first | assumption | with_reducible exact Nz.ret _ | with_reducible exact Nz.must _ | with_reducible exact Nz.name _ | with_reducible exact Nz.stp (by decide) | with_reducible exact Nz.ty _ | with_reducible exact Nz.field | with_reducible exact Nz.variant | with_reducible exact Nz.place | with_reducible exact Nz.bare | with_reducible exact Nz.oper | with_reducible exact Nz.args | with_reducible exact Nz.made | with_reducible exact Nz.signE _ _ | with_reducible exact Nz.set | with_reducible exact Nz.simple _ | with_reducible exact Nz.block _ | with_reducible refine Nz.bd ?_ ?_ | with_reducible refine Nz.optE ?_ ?_ | with_reducible refine Nz.numE ?_ ?_ | with_reducible refine Nz.greatE ?_ ?_ | with_reducible refine Nz.list ?_ | with_reducible intro _)
theorem Nz.itemQ (s : Src) (a : Int) : Nz (itemQ s a) := Nz.optE (Nz.bd (Nz.struct _ _) fun _ => Nz.ret _) fun us e i h => by
  split at h
  · exact Nz.bd (Nz.struct _ _) (fun _ => Nz.ret _) us e i h
  · exact Nz.optE (Nz.bd (Nz.enum _) fun _ => Nz.ret _) (Nz.bd (Nz.fn _) fun _ => Nz.ret _) us e i h
theorem Nz.item (s : Src) : Nz (itemP s) := fun ts e i h => Nz.itemQ s (hd ts).at_ ts e i h
theorem Nz.items : ∀ (n : Nat) (s : Src), Nz (itemsP n s)
  | 0, _ => Nz.stp (by decide)
  | n + 1, s => fun ts e i h => by
    simp only [itemsP] at h
    split at h
    · cases h
    · exact Nz.bd (Nz.item s) (fun x => Nz.items n x) ts e i h
theorem parseB_err {s : ByteArray} {e i : Int} (h : parseB s = .error (e, i)) : e ≠ 0 := by
  unfold parseB at h
  split at h
  · rename_i e' hl
    injection h with h
    injection h with h _
    rw [← h]
    exact lexB_err (e := e'.1) (i := e'.2) hl
  · split at h
    · rename_i e' hx
      injection h with h
      subst h
      exact Nz.items _ _ _ _ _ hx
    · cases h
end Go.Proofs.YtjoiflokekebkaaGreatDoor
end

section
/- Plain: items and statements stand where they tell. -/
namespace Go.Proofs.YtjoiflokekebkaaGreatDoor

/-! ### What is told of places -/
def beginsB (l : List Tk) (at_ : Int) (txt : ByteArray) : Bool := match l with
  | [] => false
  | t :: r => if t.at_ = at_ then (txt.toList == (⟨#[]⟩ : ByteArray).toList || t.s.toList == txt.toList) else beginsB r at_ txt
mutual
def risS (l : List Tk) : Stm → Int → Bool
  | .mk _ at_ _ _ _ _ _ th el arms, lo => beginsB l at_ ⟨#[]⟩ && decide (lo < at_) && risL l th at_ && risL l el at_ && risA l arms at_
def risL (l : List Tk) : List Stm → Int → Bool
  | [], _ => true
  | .mk k at_ n t p rv op th el arms :: r, lo => risS l (.mk k at_ n t p rv op th el arms) lo && risL l r at_
def risA (l : List Tk) : List Arm → Int → Bool
  | [], _ => true
  | .mk _ _ b :: r, at_ => risL l b at_ && risA l r at_
end
def structAt (l : List Tk) (x : Str) : Bool := beginsB l x.at_ (if x.drop then ⟨#[100, 114, 111, 112]⟩ else ⟨#[115, 116, 114, 117, 99, 116]⟩)
def enumAt (l : List Tk) (x : Enm) : Bool := beginsB l x.at_ ⟨#[101, 110, 117, 109]⟩
def fnAt (l : List Tk) (x : Fnc) : Bool := beginsB l x.at_ ⟨#[99, 111]⟩ && risL l x.b x.at_
def Good (l : List Tk) (x : Src) : Prop := (∀ y ∈ x.ss, structAt l y = true) ∧ (∀ y ∈ x.es, enumAt l y = true) ∧ (∀ y ∈ x.fs, fnAt l y = true)

/-! ### Tokens rise -/
def Inc (l : List Tk) : Prop := l.Pairwise (fun t u => t.at_ < u.at_)
theorem from_inc (s : ByteArray) : ∀ (k a : Nat), s.size - a ≤ k → a ≤ s.size → ∀ l, lexFrom s a = .ok l → (∀ t ∈ l, (a : Int) ≤ t.at_ ∧ t.at_ ≤ s.size) ∧ Inc l := by
  intro k
  induction k with
  | zero =>
    intro a hk ha l hl
    rw [lex_end (by omega)] at hl
    injection hl with hl
    subst hl
    exact ⟨fun t ht => by simp at ht; subst ht; simp; omega, List.pairwise_singleton _ _⟩
  | succ k ih =>
    intro a hk ha l hl
    obtain ⟨p, x, r, rfl, h2, h3, h4⟩ := from_head s _ a (Nat.le_refl _) ha l hl
    have hle := h2.le
    rcases h4 with ⟨rfl, rfl, rfl⟩ | ⟨kd, n, v, h4, h5, h6, h7, rfl, h9⟩
    · exact ⟨fun t ht => by simp at ht; subst ht; simp; omega, List.pairwise_singleton _ _⟩
    · obtain ⟨i1, i2⟩ := ih (p + n) (by omega) h6 r h9
      refine ⟨fun t ht => ?_, List.pairwise_cons.2 ⟨fun t ht => ?_, i2⟩⟩
      · rcases List.mem_cons.1 ht with rfl | ht
        · simp only; omega
        · have := i1 t ht; omega
      · have := i1 t ht
        simp only
        omega
theorem lexB_inc {s : ByteArray} {l : List Tk} (h : lexB s = .ok l) : (∀ t ∈ l, (0 : Int) ≤ t.at_ ∧ t.at_ ≤ s.size) ∧ Inc l := by
  by_cases h6 : 65536 < s.size
  · rw [lexB, if_pos h6] at h; cases h
  · rw [lexB, if_neg h6] at h
    exact from_inc s _ 0 (Nat.le_refl _) (Nat.zero_le _) l h
theorem Inc.suf {l ts : List Tk} (h : Inc l) (hs : ts <:+ l) : Inc ts := List.Pairwise.sublist hs.sublist h
theorem hd_lt {ts us : List Tk} (h : Inc ts) (hs : us <:+ ts) (hl : us.length < ts.length) : ∀ t ∈ us, (hd ts).at_ < t.at_ := by
  cases ts with
  | nil => simp at hl
  | cons x r =>
    have hr : us <:+ r := by
      rcases List.suffix_cons_iff.1 hs with rfl | h
      · simp at hl
      · exact h
    intro t ht
    exact (List.pairwise_cons.1 h).1 t (hr.subset ht)
theorem begins_at : ∀ {l : List Tk} (_ : Inc l) {t : Tk} (_ : t ∈ l) (txt : ByteArray), beginsB l t.at_ txt = (txt.toList == (⟨#[]⟩ : ByteArray).toList || t.s.toList == txt.toList)
  | x :: r, h, t, ht, txt => by
    rw [beginsB]
    rcases List.mem_cons.1 ht with rfl | ht
    · rw [if_pos rfl]
    · have := (List.pairwise_cons.1 h).1 t ht
      rw [if_neg (by omega)]
      exact begins_at (List.pairwise_cons.1 h).2 ht txt

/-! ### What is read stands so -/
section
variable {α β : Type}
/-- Tokens of l's end, all of them behind lo. -/
def Rest (l : List Tk) (lo : Int) (ts : List Tk) : Prop := ts <:+ l ∧ ∀ t ∈ ts, lo < t.at_
def Post (l : List Tk) (lo : Int) (p : Ps α) (R : α → Prop) : Prop := ∀ ts x ts', Rest l lo ts → p ts = .ok (x, ts') → R x
variable {l : List Tk} {lo : Int}
theorem Rest.suf {ts us : List Tk} (h : Rest l lo ts) (hs : us <:+ ts) : Rest l lo us := ⟨hs.trans h.1, fun t ht => h.2 t (hs.subset ht)⟩
theorem Post.any (p : Ps α) : Post l lo p (fun _ => True) := fun _ _ _ _ _ => trivial
theorem Post.ret {R : α → Prop} {x : α} (h : R x) : Post l lo (.ret x) R := fun ts y ts' _ e => by
  injection e with e; injection e with e _; exact e ▸ h
theorem Post.stp {R : α → Prop} (e : Int) : Post l lo (stp e) R := fun ts y ts' _ h => by cases h
theorem Post.bd {p : Ps α} {f : α → Ps β} {R : α → Prop} {S : β → Prop} (hl : Le p) (hp : Post l lo p R) (hf : ∀ x, R x → Post l lo (f x) S) : Post l lo (p.bd f) S := fun ts y ts' hr h => by
  obtain ⟨x, us, h1, h2⟩ := bd_split h
  exact hf x (hp _ _ _ hr h1) _ _ _ (hr.suf (hl _ _ _ h1)) h2
theorem Post.bd_ {p : Ps α} {f : α → Ps β} {S : β → Prop} (hl : Le p) (hf : ∀ x, Post l lo (f x) S) : Post l lo (p.bd f) S := Post.bd hl (Post.any p) (fun x _ => hf x)
theorem Post.optE {s : ByteArray} {p q : Ps α} {R : α → Prop} (hp : Post l lo p R) (hq : Post l lo q R) : Post l lo (optE s p q) R := fun ts y ts' hr h => by
  unfold Go.Proofs.YtjoiflokekebkaaGreatDoor.optE at h
  split at h
  · exact hp _ _ _ (hr.suf (List.tail_suffix ts)) h
  · exact hq _ _ _ hr h
theorem Post.at_ {f : List Tk → Ps α} {R : α → Prop} (h : ∀ us, Post l lo (f us) R) : Post l lo (fun ts => f ts ts) R := fun ts y ts' hr e => h ts ts y ts' hr e
end
section
variable {l : List Tk} {blk : Ps (List Stm)} (hle : Le blk) (hb : ∀ lo, Post l lo blk (fun x => risL l x lo = true))
include hle hb
theorem Post.arm (lo : Int) : Post l lo (armP blk) (fun a => risA l [a] lo = true) := by
  have h : ∀ v b, Post l lo (blk.bd fun x => .ret (.mk v b x)) (fun a => risA l [a] lo = true) := fun v b => Post.bd hle (hb lo) fun x hx => Post.ret (by simp [risA, hx])
  exact Post.bd_ (Lt.name _).le fun v => Post.optE (Post.bd_ (Lt.name _).le fun b => Post.bd_ (Lt.must _).le fun _ => Post.bd_ (Lt.must _).le fun _ => h v b) (Post.bd_ (Lt.must _).le fun _ => h v _)
theorem Post.arms (lo : Int) : ∀ n, Post l lo (armsP blk n) (fun a => risA l a lo = true)
  | 0 => Post.stp _
  | n + 1 => Post.optE (Post.ret (by simp [risA])) (Post.bd (Lt.arm hle).le (Post.arm hle hb lo) fun a ha => Post.bd (Le.arms hle n) (Post.arms lo n) fun r hr => Post.ret (by
      cases a
      simp only [risA, Bool.and_true] at ha ⊢
      rw [ha, hr]; rfl))
/-- What a statement at a place is to be, behind its own beginning. -/
def Inner (l : List Tk) (at_ : Int) : Stm → Prop
  | .mk _ a _ _ _ _ _ th el arms => a = at_ ∧ risL l th at_ = true ∧ risL l el at_ = true ∧ risA l arms at_ = true
omit hle hb in
theorem Post.simple (at_ lo : Int) : Post l lo (simpleP at_) (Inner l at_) := by
  have h : ∀ k n t p rv op, Inner l at_ (.mk k at_ n t p rv op [] [] []) := fun _ _ _ _ _ _ => ⟨rfl, by simp [risL], by simp [risL], by simp [risA]⟩
  exact Post.optE (Post.bd_ (Lt.name _).le fun _ => Post.bd_ (Lt.must _).le fun _ => Post.bd_ (Lt.ty _).le fun _ => Post.bd_ (Lt.must _).le fun _ => Post.bd_ Lt.set.le fun _ => Post.ret (h _ _ _ _ _ _)) <|
    Post.optE (Post.bd_ Lt.oper.le fun _ => Post.ret (h _ _ _ _ _ _)) <| Post.optE (Post.bd_ Lt.oper.le fun _ => Post.ret (h _ _ _ _ _ _)) <| Post.optE (Post.bd_ Lt.oper.le fun _ => Post.ret (h _ _ _ _ _ _)) <|
    Post.optE (Post.bd_ Lt.bare.le fun _ => Post.ret (h _ _ _ _ _ _)) <| Post.bd_ Lt.place.le fun _ => Post.bd_ (Lt.must _).le fun _ => Post.bd_ Lt.set.le fun _ => Post.ret (h _ _ _ _ _ _)
omit hle hb in
theorem Post.optL {α : Type} {s : ByteArray} {p q : Ps α} {R : α → Prop} {ts : List Tk} {x : α} {ts' : List Tk} (hi : Inc l) (hs : ts <:+ l) (hp : Post l (hd ts).at_ p R)
    (hq : q ts = .ok (x, ts') → R x) (h : Go.Proofs.YtjoiflokekebkaaGreatDoor.optE s p q ts = .ok (x, ts')) : R x := by
  unfold Go.Proofs.YtjoiflokekebkaaGreatDoor.optE at h
  split at h
  · rename_i hw
    exact hp _ _ _ ⟨(List.tail_suffix ts).trans hs, hd_lt (hi.suf hs) (List.tail_suffix ts) (isW_pos hw)⟩ h
  · exact hq h
theorem stmt_inner (hi : Inc l) {ts ts' : List Tk} {x : Stm} (hs : ts <:+ l) (h : stmtP blk ts = .ok (x, ts')) : Inner l (hd ts).at_ x := by
  have hn : risL l [] (hd ts).at_ = true := by simp [risL]
  have hm : risA l [] (hd ts).at_ = true := by simp [risA]
  refine Post.optL hi hs ?_ (fun h => ?_) h
  · exact Post.bd_ Lt.oper.le fun o => Post.bd hle (hb _) fun a ha => Post.optE (Post.bd hle (hb _) fun b hb2 => Post.ret ⟨rfl, ha, hb2, hm⟩) (Post.ret ⟨rfl, ha, hn, hm⟩)
  refine Post.optL hi hs ?_ (fun h => ?_) h
  · exact Post.bd_ Lt.oper.le fun o => Post.bd hle (hb _) fun a ha => Post.ret ⟨rfl, ha, hn, hm⟩
  refine Post.optL hi hs ?_ (fun h => ?_) h
  · exact Post.bd_ Lt.bare.le fun o => Post.bd_ (Lt.must _).le fun _ => Post.at_ (f := fun us => (armsP blk (us.length + 1)).bd _) fun us => Post.bd (Le.arms hle _) (Post.arms hle hb _ _) fun a ha => Post.ret ⟨rfl, hn, hn, ha⟩
  have hl : Rest l ((hd ts).at_ - 1) ts ∨ ts = [] := by
    by_cases h0 : ts = []
    · exact .inr h0
    · refine .inl ⟨hs, fun t ht => ?_⟩
      cases ts with
      | nil => exact absurd rfl h0
      | cons y r =>
        rcases List.mem_cons.1 ht with rfl | ht
        · simp [hd]; omega
        · have := (List.pairwise_cons.1 (hi.suf hs)).1 t ht
          simp [hd]; omega
  have hp : Post l ((hd ts).at_ - 1) ((simpleP (hd ts).at_).bd fun s => (must (⟨#[59]⟩ : ByteArray)).bd fun _ => .ret s) (Inner l (hd ts).at_) :=
    Post.bd (Lt.simple _).le (Post.simple _ _) fun s hs => Post.bd_ (Lt.must _).le fun _ => Post.ret hs
  rcases hl with hl | rfl
  · exact hp _ _ _ hl h
  · have := (Lt.bd (Lt.simple _) (fun _ => Le.bd (Lt.must _).le fun _ => Le.ret _) : Lt ((simpleP (hd ([] : List Tk)).at_).bd fun s => (must (⟨#[59]⟩ : ByteArray)).bd fun _ => .ret s)) _ _ _ h
    simp at this
theorem Post.stmts (hi : Inc l) : ∀ n lo, Post l lo (stmtsP blk n) (fun x => risL l x lo = true)
  | 0, _ => Post.stp _
  | n + 1, lo => Post.optE (Post.ret (by simp [risL])) fun ts x ts' hr h => by
    obtain ⟨s, us, h1, h2⟩ := bd_split h
    obtain ⟨r, vs, h3, h4⟩ := bd_split h2
    injection h4 with h4
    injection h4 with h4 _
    subst h4
    have hlt := Lt.stmt hle _ _ _ h1
    have hin := stmt_inner hle hb hi hr.1 h1
    have hrest : Rest l (hd ts).at_ us := ⟨hlt.1.trans hr.1, hd_lt (hi.suf hr.1) hlt.1 hlt.2⟩
    have h5 := Post.stmts hi n (hd ts).at_ _ _ _ hrest h3
    have hmem : hd ts ∈ ts := by cases ts with | nil => simp at hlt | cons y r => simp [hd]
    have h6 := begins_at hi (hr.1.subset hmem) ⟨#[]⟩
    have h7 := hr.2 _ hmem
    obtain ⟨k, a, n, t, p, rv, op, th, el, arms⟩ := s
    obtain ⟨rfl, h8, h9, h10⟩ := hin
    simp [risL, risS, h5, h6, h7, h8, h9, h10]
end
theorem Post.block {l : List Tk} (hi : Inc l) : ∀ k lo, Post l lo (blockP k) (fun x => risL l x lo = true)
  | 0, lo => fun ts x ts' hr h => by simp only [blockP] at h; split at h <;> cases h
  | k + 1, lo => Post.bd_ (Lt.must _).le fun _ => Post.at_ (f := fun us => stmtsP (blockP k) (us.length + 1)) fun us => Post.stmts (Le.block k) (Post.block hi k) hi _ lo
section
variable {l : List Tk} (hi : Inc l)
include hi
theorem at_word {w : ByteArray} {ts : List Tk} (hs : ts <:+ l) (hw : isW w ts = true) : beginsB l (hd ts).at_ w = true := by
  have hmem : hd ts ∈ ts := by
    have := isW_pos hw
    cases ts with
    | nil => simp at this
    | cons y r => simp [hd]
  rw [begins_at hi (hs.subset hmem)]
  simp only [isW, Bool.and_eq_true] at hw
  rw [hw.2, Bool.or_true]
omit hi in
theorem must_word {w : ByteArray} {ts ts' : List Tk} {u : Unit} (h : must w ts = .ok (u, ts')) : isW w ts = true := by
  unfold must at h
  split at h
  · assumption
  · cases h
omit hi in
theorem struct_at {d : Bool} {a : Int} {ts ts' : List Tk} {x : Str} (h : structP d a ts = .ok (x, ts')) : x.drop = d ∧ x.at_ = a ∧ isW (⟨#[115, 116, 114, 117, 99, 116]⟩ : ByteArray) ts = true := by
  obtain ⟨_, us, h1, h2⟩ := bd_split h
  obtain ⟨_, us, _, h2⟩ := bd_split h2
  obtain ⟨_, us, _, h2⟩ := bd_split h2
  obtain ⟨_, us, _, h2⟩ := bd_split h2
  injection h2 with h2
  injection h2 with h2 _
  subst h2
  exact ⟨rfl, rfl, must_word h1⟩
omit hi in
theorem enum_at {a : Int} {ts ts' : List Tk} {x : Enm} (h : enumP a ts = .ok (x, ts')) : x.at_ = a := by
  obtain ⟨_, us, _, h2⟩ := bd_split h
  obtain ⟨_, us, _, h2⟩ := bd_split h2
  obtain ⟨_, us, _, h2⟩ := bd_split h2
  injection h2 with h2
  injection h2 with h2 _
  subst h2
  rfl
theorem fn_at {a : Int} {ts ts' : List Tk} {x : Fnc} (hs : ts <:+ l) (ha : a = (hd ts).at_) (h : fnP a ts = .ok (x, ts')) : fnAt l x = true := by
  subst ha
  obtain ⟨_, us, h1, h2⟩ := bd_split h
  have hw := must_word h1
  have hlt := Lt.must _ _ _ _ h1
  have hr : Rest l (hd ts).at_ us := ⟨hlt.1.trans hs, hd_lt (hi.suf hs) hlt.1 hlt.2⟩
  have hp : Post l (hd ts).at_ ((name false).bd fun n => (must (⟨#[40]⟩ : ByteArray)).bd fun _ => (listP (⟨#[41]⟩ : ByteArray) fieldP).bd fun l => (blockP 60).bd fun b => .ret ⟨n, l, b, (hd ts).at_⟩) (fun x : Fnc => x.at_ = (hd ts).at_ ∧ risL l x.b (hd ts).at_ = true) :=
    Post.bd_ (Lt.name _).le fun _ => Post.bd_ (Lt.must _).le fun _ => Post.bd_ (Lt.list Lt.field.le).le fun _ => Post.bd (Le.block _) (Post.block hi _ _) fun b hb => Post.ret ⟨rfl, hb⟩
  obtain ⟨h3, h4⟩ := hp _ _ _ hr h2
  rw [fnAt, h3, h4, at_word hi hs hw]
  rfl
theorem item_good {s : Src} (hg : Good l s) {ts ts' : List Tk} {x : Src} (hs : ts <:+ l) (h : itemP s ts = .ok (x, ts')) : Good l x := by
  unfold itemP itemQ at h
  have happ : ∀ {γ : Type} {P : γ → Prop} {r : List γ} {y : γ}, (∀ z ∈ r, P z) → P y → ∀ z ∈ r ++ [y], P z := fun h1 h2 z hz => by
    rcases List.mem_append.1 hz with hz | hz
    · exact h1 z hz
    · simp at hz; subst hz; exact h2
  unfold optE at h
  split at h
  · rename_i hw
    obtain ⟨y, us, h1, h2⟩ := bd_split h
    injection h2 with h2
    injection h2 with h2 _
    subst h2
    obtain ⟨h3, h4, h5⟩ := struct_at h1
    exact ⟨happ hg.1 (by rw [structAt, h3, h4]; exact at_word hi hs hw), hg.2⟩
  · dsimp only at h
    split at h
    · rename_i hw
      obtain ⟨y, us, h1, h2⟩ := bd_split h
      injection h2 with h2
      injection h2 with h2 _
      subst h2
      obtain ⟨h3, h4, h5⟩ := struct_at h1
      exact ⟨happ hg.1 (by rw [structAt, h3, h4]; exact at_word hi hs hw), hg.2⟩
    · split at h
      · rename_i hw
        obtain ⟨y, us, h1, h2⟩ := bd_split h
        injection h2 with h2
        injection h2 with h2 _
        subst h2
        have h3 := enum_at h1
        exact ⟨hg.1, happ hg.2.1 (by rw [enumAt, h3]; exact at_word hi hs hw), hg.2.2⟩
      · obtain ⟨y, us, h1, h2⟩ := bd_split h
        injection h2 with h2
        injection h2 with h2 _
        subst h2
        exact ⟨hg.1, hg.2.1, happ hg.2.2 (fn_at hi hs rfl h1)⟩
theorem items_good : ∀ (n : Nat) (s : Src) (ts : List Tk) (v : Src) (r : List Tk), Good l s → ts <:+ l → itemsP n s ts = .ok (v, r) → Good l v
  | 0, _, _, _, _, _, _, h => by cases h
  | n + 1, s, ts, v, r, hg, hs, h => by
    simp only [itemsP] at h
    split at h
    · injection h with h
      injection h with h _
      exact h ▸ hg
    · obtain ⟨x, us, h1, h2⟩ := bd_split h
      exact items_good n x us v r (item_good hi hg hs h1) ((Lt.item _ _ _ _ h1).1.trans hs) h2
end
/-- What is read of a text stands where it tells. -/
theorem places_good {s : ByteArray} {l : List Tk} {x : Src} (h : lexB s = .ok l) (hx : parseB s = .ok x) : Good l x := by
  rw [parseB, h] at hx
  simp only at hx
  cases hi : itemsP (l.length + 1) .zero l with
  | error e => rw [hi] at hx; cases hx
  | ok r =>
    rw [hi] at hx
    simp only at hx
    injection hx with hx
    subst hx
    obtain ⟨v, us⟩ := r
    exact items_good (lexB_inc h).2 _ _ _ _ _ ⟨fun y hy => (by cases hy), fun y hy => (by cases hy), fun y hy => (by cases hy)⟩ (List.suffix_refl _) hi
end Go.Proofs.YtjoiflokekebkaaGreatDoor
end
