/- A source in the making; an item, as it is read. -/
import Derived.Test.YtjoiflokekebkaaDoorR14
set_option linter.all false
namespace Go.Proofs.YtjoiflokekebkaaDoor
open Go.RowKit

theorem info_Struct : (Tryd.prog.info? 41).map (fun i => (i.zero, i.size, i.bytes)) = some (some (.agg #[.string ⟨#[]⟩, .bool false, .slice none 0 0, .int .i64 0]), 4, 56) := by kernel_rfl
theorem info_Enum : (Tryd.prog.info? 44).map (fun i => (i.zero, i.size, i.bytes)) = some (some (.agg #[.string ⟨#[]⟩, .slice none 0 0, .int .i64 0]), 3, 48) := by kernel_rfl
theorem info_Fn : (Tryd.prog.info? 38).map (fun i => (i.zero, i.size, i.bytes)) = some (some (.agg #[.string ⟨#[]⟩, .slice none 0 0, .slice none 0 0, .int .i64 0]), 4, 72) := by kernel_rfl
/-- A source in the making in block S: its rows share no block (each block has a colour). -/
structure SrcRows (S E N : Nat) (col : Nat → Nat) (w : World) (s : Src) (v1 v2 v3 : Value) : Prop where
  bx : Bx 31 w S #[v1, v2, v3]
  hE : S < E ∧ E < N ∧ col E = 3
  be : Bx 73 w E #[.int .i64 0, .int .i64 0]
  hss : Rd w (fun j => S < j ∧ j < N ∧ col j = 0) v1 (.row 41 4 (s.ss.map Str.d))
  hes : Rd w (fun j => S < j ∧ j < N ∧ col j = 1) v2 (.row 44 3 (s.es.map Enm.d))
  hfs : Rd w (fun j => S < j ∧ j < N ∧ col j = 2) v3 (.row 38 4 (s.fs.map Fnc.d))
def SrcAt (S E : Nat) (w : World) (s : Src) : Prop := ∃ (N : Nat) (col : Nat → Nat) (A1 : Option Addr) (c1 : Nat) (A2 : Option Addr) (c2 : Nat) (A3 : Option Addr) (c3 : Nat), SrcRows S E N col w s (.slice A1 s.ss.length c1) (.slice A2 s.es.length c2) (.slice A3 s.fs.length c3)
theorem SrcRows.bound {S E N : Nat} {col : Nat → Nat} {w : World} {s : Src} {v1 v2 v3 : Value} (h : SrcRows S E N col w s v1 v2 v3) : SrcRows S E w.heap.size col w s v1 v2 v3 :=
  ⟨h.bx, ⟨h.hE.1, blk_lt h.be, h.hE.2.2⟩, h.be, h.hss.bound.mono (fun k hk => ⟨hk.1.1, hk.2, hk.1.2.2⟩), h.hes.bound.mono (fun k hk => ⟨hk.1.1, hk.2, hk.1.2.2⟩), h.hfs.bound.mono (fun k hk => ⟨hk.1.1, hk.2, hk.1.2.2⟩)⟩
theorem SrcRows.step {S E N : Nat} {col : Nat → Nat} {w w' : World} {s : Src} {v1 v2 v3 : Value} (h : SrcRows S E N col w s v1 v2 v3) (hS : w'.heap[S]? = w.heap[S]?) (hm : ∀ k, S < k → k < N → k < w.heap.size → w'.heap[k]? = w.heap[k]?) : SrcRows S E N col w' s v1 v2 v3 :=
  ⟨hS.trans h.bx, h.hE, (hm E h.hE.1 h.hE.2.1 (blk_lt h.be)).trans h.be, h.hss.step (fun k hk hl => hm k hk.1 hk.2.1 hl), h.hes.step (fun k hk hl => hm k hk.1 hk.2.1 hl), h.hfs.step (fun k hk hl => hm k hk.1 hk.2.1 hl)⟩
theorem SrcRows.kept {S E N R : Nat} {col : Nat → Nat} {w w' : World} {s : Src} {v1 v2 v3 : Value} (h : SrcRows S E N col w s v1 v2 v3) (hg : w.grownBy w' (some R)) (hR : R < S) : SrcRows S E N col w' s v1 v2 v3 :=
  h.step (hg.block S (blk_lt h.bx) (fun e => by injection e; omega)) (fun k hk _ hl => hg.block k hl (fun e => by injection e; omega))
theorem SrcRows.bel {S E N : Nat} {col : Nat → Nat} {w w' : World} {s : Src} {v1 v2 v3 : Value} (h : SrcRows S E N col w s v1 v2 v3) (hb : Below w.heap.size w w') : SrcRows S E N col w' s v1 v2 v3 :=
  h.step (hb.block S (blk_lt h.bx)) (fun k _ _ hl => hb.block k hl)
theorem SrcRows.put {S E N lo hi : Nat} {col : Nat → Nat} {w w' : World} {s : Src} {v1 v2 v3 : Value} (h : SrcRows S E N col w s v1 v2 v3) (hp : Put lo hi w w') (h1 : S < lo) (h2 : N ≤ lo) : SrcRows S E N col w' s v1 v2 v3 :=
  h.step (hp.block S (.inl h1)) (fun k _ hk _ => hp.block k (.inl (by omega)))
theorem SrcAt.kept {S E R : Nat} {w w' : World} {s : Src} (h : SrcAt S E w s) (hg : w.grownBy w' (some R)) (hR : R < S) : SrcAt S E w' s := by
  obtain ⟨N, col, A1, c1, A2, c2, A3, c3, h⟩ := h
  exact ⟨N, col, A1, c1, A2, c2, A3, c3, h.kept hg hR⟩
theorem SrcAt.bel {S E : Nat} {w w' : World} {s : Src} (h : SrcAt S E w s) (hb : Below w.heap.size w w') : SrcAt S E w' s := by
  obtain ⟨N, col, A1, c1, A2, c2, A3, c3, h⟩ := h
  exact ⟨N, col, A1, c1, A2, c2, A3, c3, h.bel hb⟩
theorem SrcAt.box {S E : Nat} {w : World} {s : Src} (h : SrcAt S E w s) : ∃ v1 v2 v3, Bx 31 w S #[v1, v2, v3] ∧ S < E ∧ Bx 73 w E #[.int .i64 0, .int .i64 0] := by
  obtain ⟨N, col, A1, c1, A2, c2, A3, c3, h⟩ := h
  exact ⟨_, _, _, h.bx, h.hE.1, h.be⟩
/-- What an item's reader does: it adds to the source in block S. -/
def Item (s : Src) (W : World) (R S E : Nat) (ts : List Tk) (e : Ending) (w' : World) : Prop :=
  W.grownBy w' (some R) ∧ SrcAt S E w' s ∧ (∃ er at2, itemP s ts = .error (er, at2) ∧ e = .panicked [{ v := .iface 73 (.agg #[.int .i64 er, .int .i64 at2]), recovered := false }]) ∨
  W.grownBy w' (some R) ∧ (∃ s' us, itemP s ts = .ok (s', us) ∧ e = .returned (.tuple #[]) ∧ SrcAt S E w' s' ∧ Rdr w' R us)
section
variable {s : Src} {ts us : List Tk} {e : Int × Int}
theorem item_drop (hw : isW (⟨#[100, 114, 111, 112]⟩ : ByteArray) ts = true) : itemP s ts = ((structP true (hd ts).at_).bd fun x => .ret { s with ss := s.ss ++ [x] }) ts.tail := by rw [itemP, itemQ, optE_t hw]
theorem item_rest (hw : isW (⟨#[100, 114, 111, 112]⟩ : ByteArray) ts = false) : itemP s ts = if isW (⟨#[115, 116, 114, 117, 99, 116]⟩ : ByteArray) ts = true then (structP false (hd ts).at_).bd (fun x => .ret { s with ss := s.ss ++ [x] }) ts
      else optE (⟨#[101, 110, 117, 109]⟩ : ByteArray) ((enumP (hd ts).at_).bd fun x => .ret { s with es := s.es ++ [x] }) ((fnP (hd ts).at_).bd fun x => .ret { s with fs := s.fs ++ [x] }) ts := by rw [itemP, itemQ, optE_f hw]
theorem item_struct (hw : isW (⟨#[100, 114, 111, 112]⟩ : ByteArray) ts = false) (h2 : isW (⟨#[115, 116, 114, 117, 99, 116]⟩ : ByteArray) ts = true) : itemP s ts = ((structP false (hd ts).at_).bd fun x => .ret { s with ss := s.ss ++ [x] }) ts := by rw [item_rest hw, if_pos h2]
theorem item_enum (hw : isW (⟨#[100, 114, 111, 112]⟩ : ByteArray) ts = false) (h2 : isW (⟨#[115, 116, 114, 117, 99, 116]⟩ : ByteArray) ts = false) (h3 : isW (⟨#[101, 110, 117, 109]⟩ : ByteArray) ts = true) : itemP s ts = ((enumP (hd ts).at_).bd fun x => .ret { s with es := s.es ++ [x] }) ts.tail := by
  rw [item_rest hw, if_neg (by simp [h2]), optE_t h3]
theorem item_fn (hw : isW (⟨#[100, 114, 111, 112]⟩ : ByteArray) ts = false) (h2 : isW (⟨#[115, 116, 114, 117, 99, 116]⟩ : ByteArray) ts = false) (h3 : isW (⟨#[101, 110, 117, 109]⟩ : ByteArray) ts = false) : itemP s ts = ((fnP (hd ts).at_).bd fun x => .ret { s with fs := s.fs ++ [x] }) ts := by
  rw [item_rest hw, if_neg (by simp [h2]), optE_f h3]
theorem item_count {s' : Src} (h : itemP s ts = .ok (s', us)) : s'.ss.length + s'.es.length + s'.fs.length = s.ss.length + s.es.length + s.fs.length + 1 := by
  have key : ∀ {α : Type} {p : Ps α} {f : α → Src} {t2 : List Tk}, (∀ x, (f x).ss.length + (f x).es.length + (f x).fs.length = s.ss.length + s.es.length + s.fs.length + 1) → (p.bd fun x => Ps.ret (f x)) t2 = .ok (s', us) → s'.ss.length + s'.es.length + s'.fs.length = s.ss.length + s.es.length + s.fs.length + 1 := by
    intro α p f t2 hf hq
    unfold Ps.bd at hq
    cases hp : p t2 with
    | error e => rw [hp] at hq; cases hq
    | ok r =>
      rw [hp] at hq
      simp only [Ps.ret] at hq
      injection hq with hq
      injection hq with hq _
      rw [← hq]
      exact hf _
  cases h1 : isW (⟨#[100, 114, 111, 112]⟩ : ByteArray) ts with
  | true => rw [item_drop h1] at h; exact key (fun x => by simp; omega) h
  | false =>
    cases h2 : isW (⟨#[115, 116, 114, 117, 99, 116]⟩ : ByteArray) ts with
    | true => rw [item_struct h1 h2] at h; exact key (fun x => by simp; omega) h
    | false =>
      cases h3 : isW (⟨#[101, 110, 117, 109]⟩ : ByteArray) ts with
      | true => rw [item_enum h1 h2 h3] at h; exact key (fun x => by simp; omega) h
      | false => rw [item_fn h1 h2 h3] at h; exact key (fun x => by simp; omega) h
end
end Go.Proofs.YtjoiflokekebkaaDoor
