/- Plain: items end with a closing brace. -/
import Derived.Test.YtjoiflokekebkaaDoorPc
import Derived.Test.YtjoiflokekebkaaDoorL4
set_option linter.all false
namespace Go.Proofs.YtjoiflokekebkaaDoor

def IsB (t : Tk) : Prop := (t.k = 1 ∨ t.k = 3) ∧ t.s = brace
def EndB {α : Type} (p : Ps α) : Prop := ∀ (ts : List Tk) (x : α) (r : List Tk), p ts = .ok (x, r) → ∃ pre b, ts = pre ++ b :: r ∧ IsB b
theorem bytes_same {a b : ByteArray} (h : (a.toList == b.toList) = true) : a.toList = b.toList := by simpa using h
theorem isW_brace {ts : List Tk} (h : isW brace ts = true) : ∃ b r, ts = b :: r ∧ IsB b := by
  cases ts with
  | nil => simp [isW, hd] at h
  | cons b r =>
    refine ⟨b, r, rfl, ?_⟩
    simp only [isW, hd, List.headD_cons, Bool.and_eq_true, Bool.or_eq_true, decide_eq_true_eq] at h
    refine ⟨h.1.imp of_decide_eq_true of_decide_eq_true, ?_⟩
    have h2 := bytes_same h.2
    rw [ByteArray.toList_eq, ByteArray.toList_eq] at h2
    exact bytes_eq h2
section
variable {α β : Type}
theorem EndB.must : EndB (must brace) := fun ts x r h => by
  unfold Go.Proofs.YtjoiflokekebkaaDoor.must at h
  split at h
  · rename_i hw
    injection h with h
    injection h with _ h
    obtain ⟨b, r', rfl, hb⟩ := isW_brace hw
    exact ⟨[], b, by rw [← h]; rfl, hb⟩
  · cases h
theorem EndB.stp (e : Int) : EndB (stp e : Ps α) := fun ts x r h => by cases h
theorem EndB.bd {p : Ps α} {f : α → Ps β} (hp : Le p) (hf : ∀ x, EndB (f x)) : EndB (p.bd f) := fun ts y r h => by
  obtain ⟨x, us, h1, h2⟩ := bd_split h
  obtain ⟨q, rfl⟩ := hp _ _ _ h1
  obtain ⟨pre, b, rfl, hb⟩ := hf x _ _ _ h2
  exact ⟨q ++ pre, b, by simp, hb⟩
theorem EndB.ret {p : Ps α} {g : α → β} (hp : EndB p) : EndB (p.bd fun x => Ps.ret (g x)) := fun ts y r h => by
  obtain ⟨x, us, h1, h2⟩ := bd_split h
  injection h2 with h2
  injection h2 with _ h2
  subst h2
  exact hp _ _ _ h1
theorem EndB.optE {s : ByteArray} {p q : Ps α} (hp : EndB p) (hq : EndB q) : EndB (optE s p q) := fun ts y r h => by
  unfold Go.Proofs.YtjoiflokekebkaaDoor.optE at h
  split at h
  · rename_i hw
    obtain ⟨pre, b, h1, hb⟩ := hp _ _ _ h
    cases ts with
    | nil => simp at h1
    | cons a ts =>
      simp at h1
      exact ⟨a :: pre, b, by rw [h1]; rfl, hb⟩
  · exact hq _ _ _ h
theorem EndB.optB {x : α} {q : Ps α} (hq : EndB q) : EndB (Go.Proofs.YtjoiflokekebkaaDoor.optE brace (Ps.ret x) q) := fun ts y r h => by
  unfold Go.Proofs.YtjoiflokekebkaaDoor.optE at h
  split at h
  · rename_i hw
    injection h with h
    injection h with _ h
    obtain ⟨b, r', rfl, hb⟩ := isW_brace hw
    exact ⟨[], b, by rw [← h]; rfl, hb⟩
  · exact hq _ _ _ h
theorem EndB.at_ {f : List Tk → Ps α} (h : ∀ us, EndB (f us)) : EndB (fun ts => f ts ts) := fun ts y r e => h ts ts y r e
theorem EndB.more {read : Ps α} (hr : Le read) : ∀ n, EndB (moreP brace read n)
  | 0 => EndB.stp _
  | n + 1 => EndB.optE (EndB.bd hr fun _ => EndB.ret (EndB.more hr n)) (EndB.ret EndB.must)
theorem EndB.list {read : Ps α} (hr : Le read) : EndB (listP brace read) :=
  EndB.optB (EndB.bd hr fun _ => EndB.at_ (f := fun us => (moreP brace read (us.length + 1)).bd _) fun us => EndB.ret (EndB.more hr _))
end
theorem EndB.stmts {blk : Ps (List Stm)} (hb : Le blk) : ∀ n, EndB (stmtsP blk n)
  | 0 => EndB.stp _
  | n + 1 => EndB.optB (EndB.bd (Lt.stmt hb).le fun _ => EndB.ret (EndB.stmts hb n))
theorem EndB.block : ∀ k, EndB (blockP k)
  | 0 => fun ts y r h => by
    simp only [blockP] at h
    split at h <;> cases h
  | k + 1 => EndB.bd (Lt.must _).le fun _ => EndB.at_ (f := fun us => stmtsP (blockP k) (us.length + 1)) fun us => EndB.stmts (Le.block k) _
theorem EndB.struct (d : Bool) (a : Int) : EndB (structP d a) := EndB.bd (Lt.must _).le fun _ => EndB.bd (Lt.name _).le fun _ => EndB.bd (Lt.must _).le fun _ => EndB.ret (EndB.list Lt.field.le)
theorem EndB.enum (a : Int) : EndB (enumP a) := EndB.bd (Lt.name _).le fun _ => EndB.bd (Lt.must _).le fun _ => EndB.ret (EndB.list Lt.variant.le)
theorem EndB.fn (a : Int) : EndB (fnP a) := EndB.bd (Lt.must _).le fun _ => EndB.bd (Lt.name _).le fun _ => EndB.bd (Lt.must _).le fun _ => EndB.bd (Lt.list Lt.field.le).le fun _ => EndB.ret (EndB.block _)
theorem EndB.itemQ (s : Src) (a : Int) : EndB (itemQ s a) := EndB.optE (EndB.ret (EndB.struct _ _)) fun us y r h => by
  split at h
  · exact EndB.ret (EndB.struct _ _) us y r h
  · exact EndB.optE (EndB.ret (EndB.enum _)) (EndB.ret (EndB.fn _)) us y r h
theorem EndB.item (s : Src) : EndB (itemP s) := fun ts x r h => EndB.itemQ s (hd ts).at_ ts x r h
theorem items_end : ∀ (n : Nat) (s : Src) (ts : List Tk) (v : Src) (r : List Tk), itemsP n s ts = .ok (v, r) → (hd r).k = 0 ∧ (ts = r ∨ ∃ pre b, ts = pre ++ b :: r ∧ IsB b)
  | 0, _, _, _, _, h => by cases h
  | n + 1, s, ts, v, r, h => by
    simp only [itemsP] at h
    split at h
    · rename_i hk
      injection h with h
      injection h with _ h
      subst h
      exact ⟨hk, .inl rfl⟩
    · obtain ⟨x, us, h1, h2⟩ := bd_split h
      obtain ⟨pre, b, rfl, hb⟩ := EndB.item s _ _ _ h1
      obtain ⟨h3, h4⟩ := items_end n x us v r h2
      refine ⟨h3, .inr ?_⟩
      rcases h4 with rfl | ⟨pre2, b2, rfl, hb2⟩
      · exact ⟨pre, b, rfl, hb⟩
      · exact ⟨pre ++ b :: pre2, b2, by simp, hb2⟩
end Go.Proofs.YtjoiflokekebkaaDoor
