/- Texts of this claim in one file: R1, R2, R3, R4, R4b, R5, R5b. -/
import Derived.Test.YtjoiflokekebkaaGreatDoorM2
import Derived.Deep.LoopGhost
import Derived.Deep.CutBlock
import Derived.Deep.CutRange
set_option linter.all false
section
/- Walks: the reader's smallest methods. -/
namespace Go.Proofs.YtjoiflokekebkaaGreatDoor
open Go.RowKit

theorem Rdr.see {W : World} {R : Nat} {ts : List Tk} (h : Rdr W R ts) : ∃ T o c, T < R ∧ R < W.heap.size ∧ ts.length ≤ c ∧ 0 < ts.length ∧ ∀ W', Below (R + 1) W W' →
    W'.cell? ⟨R, 0, none⟩ = some (.slice (some ⟨T, o, none⟩) ts.length c) ∧ W'.frozen? ⟨R, 0, none⟩ = false ∧ W'.cell? ⟨T, o, none⟩ = some (.int .i64 (hd ts).k) ∧ W'.cell? ⟨T, o + 1, none⟩ = some (.string (hd ts).s) ∧
    W'.cell? ⟨T, o + 2, none⟩ = some (.int .i64 (hd ts).n) ∧ W'.cell? ⟨T, o + 3, none⟩ = some (.int .i64 (hd ts).at_) := by
  have hR := h.lt
  obtain ⟨⟨T, o, c, h1, h2, h3, h4⟩, h5⟩ := h
  have hne := h5.ne
  cases ts with
  | nil => exact absurd rfl hne
  | cons t r =>
    refine ⟨T, o, c, h2, hR, h3, by simp, fun W' hb => ?_⟩
    have hB := (hb.block R (by omega)).trans h1
    have hc : ∀ j, W'.cell? ⟨T, j, none⟩ = W.cell? ⟨T, j, none⟩ := fun j => hb.cell (p := ⟨T, j, none⟩) (by show T < R + 1; omega)
    obtain ⟨k0, k1, k2, k3⟩ := h4 0 t rfl
    rw [Nat.zero_mul, Nat.add_zero] at k0 k1 k2 k3
    exact ⟨blk_cell hB 0, blk_frozen hB 0, by rw [hc]; exact k0, by rw [hc]; exact k1, by rw [hc]; exact k2, by rw [hc]; exact k3⟩
theorem bel_one {W : World} {R : Nat} (h : R < W.heap.size) (o : Obj) : Below (R + 1) W (W.alloc o) := (Below.refl (R + 1) W).alloc (by omega) o

theorem next_rd {W : World} {R : Nat} {ts : List Tk} (h : Rdr W R ts) : Calls Tryz.prog 102 #[.pointer (some ⟨R, 0, none⟩)] W fun e W' => e = .returned (.agg #[.int .i64 (hd ts).k, .string (hd ts).s, .int .i64 (hd ts).n, .int .i64 (hd ts).at_]) ∧ Below W.heap.size W W' := by
  obtain ⟨T, o, c, hT, hR, hc, hl, hw⟩ := h.see
  have k0 : ∀ ob, (W.alloc ob).cell? ⟨R, 0, none⟩ = some (.slice (some ⟨T, o, none⟩) ts.length c) := fun ob => (hw _ (bel_one hR ob)).1
  have k2 : ∀ ob, (W.alloc ob).cell? ⟨T, o, none⟩ = some (.int .i64 (hd ts).k) := fun ob => (hw _ (bel_one hR ob)).2.2.1
  have k3 : ∀ ob, (W.alloc ob).cell? ⟨T, o + 1, none⟩ = some (.string (hd ts).s) := fun ob => (hw _ (bel_one hR ob)).2.2.2.1
  have k4 : ∀ ob, (W.alloc ob).cell? ⟨T, o + 2, none⟩ = some (.int .i64 (hd ts).n) := fun ob => (hw _ (bel_one hR ob)).2.2.2.2.1
  have k5 : ∀ ob, (W.alloc ob).cell? ⟨T, o + 3, none⟩ = some (.int .i64 (hd ts).at_) := fun ob => (hw _ (bel_one hR ob)).2.2.2.2.2
  have hp : (0 : Int) < (ts.length : Int) := by omega
  clear hw h hc hl
  go_enter Tryz.func102, Tryz.ntmps102
  go_wp2_with fail
  exact bodyPost_ret (v := .agg #[.int .i64 (hd ts).k, .string (hd ts).s, .int .i64 (hd ts).n, .int .i64 (hd ts).at_]) (by (simp only [results, Tryz.results102]); go_simp) rfl ⟨rfl, (Below.refl _ _).alloc (Nat.le_refl _) _⟩

theorem set_grown (W : World) (g j : Nat) (u : Value) : W.grownBy (W.setCell ⟨g, j, none⟩ u) (some g) :=
  ⟨rfl, rfl, rfl, by simp, fun k _ hk => Below.heap_setCell W ⟨g, j, none⟩ u k (fun e => hk (by simp only at e; rw [e]))⟩
/-- A reader that has taken a token. -/
theorem Rdr.taken {W W' : World} {R T o c : Nat} {ts : List Tk} (h : Rdr W R ts) (hk : (hd ts).k ≠ 0) (hc : W.cell? ⟨R, 0, none⟩ = some (.slice (some ⟨T, o, none⟩) ts.length c))
    (hn : ∀ k, k < R → W'.heap[k]? = W.heap[k]?) (hb : W'.heap[R]? = some (.cells #[.slice (some ⟨T, o + 4, none⟩) (ts.length - 1) (c - 1)] 113 (0, 0))) : Rdr W' R ts.tail := by
  obtain ⟨⟨T', o', c', h1, h2, h3, h4⟩, h5⟩ := h
  rw [blk_cell h1] at hc
  simp at hc
  obtain ⟨⟨rfl, rfl⟩, rfl⟩ := hc
  refine ⟨⟨T', o' + 4, c' - 1, by rw [hb, List.length_tail], h2, by rw [List.length_tail]; omega, fun i t ht => ?_⟩, h5.tail hk⟩
  have hcell : ∀ j, W'.cell? ⟨T', j, none⟩ = W.cell? ⟨T', j, none⟩ := fun j => by simp [World.cell?, hn T' h2]
  rw [List.getElem?_tail] at ht
  have := h4 (i + 1) t ht
  rw [hcell, hcell, hcell, hcell]
  rw [show o' + 4 + i * 4 = o' + (i + 1) * 4 by omega]
  exact this
theorem Toks.two {ts : List Tk} (h : Toks ts) (hk : (hd ts).k ≠ 0) : 2 ≤ ts.length := by
  cases ts with
  | nil => exact absurd rfl h.ne
  | cons t r => have := h.fin 0 t rfl hk; simp at this ⊢; omega
theorem take_rd {W : World} {R : Nat} {ts : List Tk} (h : Rdr W R ts) (hk : (hd ts).k ≠ 0) : Calls Tryz.prog 189 #[.pointer (some ⟨R, 0, none⟩)] W fun e W' => e = .returned (.agg #[.int .i64 (hd ts).k, .string (hd ts).s, .int .i64 (hd ts).n, .int .i64 (hd ts).at_]) ∧ W.grownBy W' (some R) ∧ Rdr W' R ts.tail := by
  obtain ⟨T, o, c, hT, hR, hc, hl, hw⟩ := h.see
  have h2 := h.ok.two hk
  have HR := Lib.hid h
  have k0 : ∀ ob ob', ((W.alloc ob).alloc ob').cell? ⟨R, 0, none⟩ = some (.slice (some ⟨T, o, none⟩) ts.length c) := fun ob ob' => (hw _ ((bel_one hR ob).alloc (by simp; omega) ob')).1
  have kf : ∀ ob ob', ((W.alloc ob).alloc ob').frozen? ⟨R, 0, none⟩ = false := fun ob ob' => (hw _ ((bel_one hR ob).alloc (by simp; omega) ob')).2.1
  have k2 : ∀ ob ob', ((W.alloc ob).alloc ob').cell? ⟨T, o, none⟩ = some (.int .i64 (hd ts).k) := fun ob ob' => (hw _ ((bel_one hR ob).alloc (by simp; omega) ob')).2.2.1
  have k3 : ∀ ob ob', ((W.alloc ob).alloc ob').cell? ⟨T, o + 1, none⟩ = some (.string (hd ts).s) := fun ob ob' => (hw _ ((bel_one hR ob).alloc (by simp; omega) ob')).2.2.2.1
  have k4 : ∀ ob ob', ((W.alloc ob).alloc ob').cell? ⟨T, o + 2, none⟩ = some (.int .i64 (hd ts).n) := fun ob ob' => (hw _ ((bel_one hR ob).alloc (by simp; omega) ob')).2.2.2.2.1
  have k5 : ∀ ob ob', ((W.alloc ob).alloc ob').cell? ⟨T, o + 3, none⟩ = some (.int .i64 (hd ts).at_) := fun ob ob' => (hw _ ((bel_one hR ob).alloc (by simp; omega) ob')).2.2.2.2.2
  have j0 : ∀ ob, (W.alloc ob).cell? ⟨R, 0, none⟩ = some (.slice (some ⟨T, o, none⟩) ts.length c) := fun ob => (hw _ (bel_one hR ob)).1
  have j2 : ∀ ob, (W.alloc ob).cell? ⟨T, o, none⟩ = some (.int .i64 (hd ts).k) := fun ob => (hw _ (bel_one hR ob)).2.2.1
  have j3 : ∀ ob, (W.alloc ob).cell? ⟨T, o + 1, none⟩ = some (.string (hd ts).s) := fun ob => (hw _ (bel_one hR ob)).2.2.2.1
  have j4 : ∀ ob, (W.alloc ob).cell? ⟨T, o + 2, none⟩ = some (.int .i64 (hd ts).n) := fun ob => (hw _ (bel_one hR ob)).2.2.2.2.1
  have j5 : ∀ ob, (W.alloc ob).cell? ⟨T, o + 3, none⟩ = some (.int .i64 (hd ts).at_) := fun ob => (hw _ (bel_one hR ob)).2.2.2.2.2
  have hp : (0 : Int) < (ts.length : Int) := by omega
  have hp1 : (1 : Int) ≤ (ts.length : Int) := by omega
  have hc1 : (ts.length : Int) ≤ (c : Int) := by omega
  have hcn : ¬ c = 1 := by omega
  have hcm : ¬ (c : Int) = 1 := by omega
  clear hw h hl
  go_enter Tryz.func189, Tryz.ntmps189
  go_wp2_with fail
  have hg : W.grownBy (((W.setCell ⟨R, 0, none⟩ (.slice (some ⟨T, o + 4, none⟩) (ts.length - 1) (c - 1))).alloc (.cells #[.int .i64 (hd ts).k, .string (hd ts).s, .int .i64 (hd ts).n, .int .i64 (hd ts).at_] 73)).alloc (.cells #[.int .i64 (hd ts).k, .string (hd ts).s, .int .i64 (hd ts).n, .int .i64 (hd ts).at_] 73)) (some R) :=
    World.grownBy.trans (World.grownBy.trans (set_grown W R 0 _) (World.grownBy_alloc _ _ _)) (World.grownBy_alloc _ _ _)
  refine bodyPost_ret (v := .agg #[.int .i64 (hd ts).k, .string (hd ts).s, .int .i64 (hd ts).n, .int .i64 (hd ts).at_]) (by (simp only [results, Tryz.results189]); go_simp) rfl ⟨rfl, hg, HR.out.taken (T := T) (o := o) (c := c) hk ?_ (fun k hk' => hg.block k (by omega) (by simp; omega)) ?_⟩
  · have := j0 (.cells #[] 0)
    rwa [World.cell?_alloc_past _ _ _ (by exact hR)] at this
  · obtain ⟨⟨T', o', c', h1, _⟩, _⟩ := HR.out
    have h3 := blk_alloc (blk_alloc (blk_set h1 0 (.slice (some ⟨T, o + 4, none⟩) (ts.length - 1) (c - 1))) (.cells #[.int .i64 (hd ts).k, .string (hd ts).s, .int .i64 (hd ts).n, .int .i64 (hd ts).at_] 73)) (.cells #[.int .i64 (hd ts).k, .string (hd ts).s, .int .i64 (hd ts).n, .int .i64 (hd ts).at_] 73)
    simpa using h3
theorem tok_at (a b c d : Value) (w : World) : (Instr.field 73 (.agg #[a, b, c, d]) 3).run Tryz.prog w = .ok d w := by kernel_rfl
theorem tok_text (a b c d : Value) (w : World) : (Instr.field 73 (.agg #[a, b, c, d]) 1).run Tryz.prog w = .ok b w := by kernel_rfl
theorem tok_num (a b c d : Value) (w : World) : (Instr.field 73 (.agg #[a, b, c, d]) 2).run Tryz.prog w = .ok c w := by kernel_rfl
theorem tok_kind (a b c d : Value) (w : World) : (Instr.field 73 (.agg #[a, b, c, d]) 0).run Tryz.prog w = .ok a w := by kernel_rfl
set_option maxRecDepth 100000 in
theorem stop_rd {W : World} {R : Nat} {ts : List Tk} (h : Rdr W R ts) (er : Int) : Calls Tryz.prog 191 #[.pointer (some ⟨R, 0, none⟩), .int .i64 er] W fun e W' =>
    e = .panicked [{ v := .iface 115 (.agg #[.int .i64 er, .int .i64 (hd ts).at_]), recovered := false }] ∧ Below W.heap.size W W' := by
  have H := Lib.hid h
  clear h
  have hf := tok_at
  go_enter Tryz.func191, Tryz.ntmps191
  go_wp2_with fail
  refine (next_rd H.out).mono ?_
  rintro e w1 ⟨rfl, hb⟩
  go_wp2_with fail
  exact ⟨rfl, rfl, hb⟩
theorem index_one (B : Nat) (x s : ByteArray) (W : World) (hc : W.cell? ⟨B, 0, none⟩ = some (.string s)) :
    Calls Tryz.prog 211 #[.slice (some ⟨B, 0, none⟩) 1 1, .string x] W fun e W' => e = .returned (.int .i64 (if (x.toList == s.toList) = true then 0 else -1)) ∧ W' = W := by
  obtain ⟨b, hb⟩ : ∃ b, (x.toList == s.toList) = b := ⟨_, rfl⟩
  rw [hb]
  go_enter Tryz.func211, Tryz.ntmps211
  go_wp2_with fail
  go_loopw [5, 8] (fun _ i wr => (i = .int .i64 0 ∨ (i = .int .i64 1 ∧ b = false)) ∧ wr = W) (fun _ i _ => 2 - (intOf i).toNat)
  case atStart => exact ⟨.inl rfl, rfl⟩
  case round =>
    obtain ⟨hi, rfl⟩ := hrel
    rcases hi with rfl | ⟨rfl, rfl⟩
    · cases b
      · go_wp2_with fail
        go_roundw
        case rel => exact ⟨.inr ⟨rfl, trivial⟩, trivial⟩
        case measure => simp [intOf]
      · go_wp2_with fail
        go_ret
        exact ⟨rfl, rfl⟩
    · clear hb
      go_wp2_with fail
      go_ret
      exact ⟨rfl, rfl⟩
theorem contains_one (B : Nat) (x s : ByteArray) (W : World) (hc : W.cell? ⟨B, 0, none⟩ = some (.string s)) :
    Calls Tryz.prog 190 #[.slice (some ⟨B, 0, none⟩) 1 1, .string x] W fun e W' => e = .returned (.bool (x.toList == s.toList)) ∧ W' = W := by
  obtain ⟨b, hb⟩ : ∃ b, (x.toList == s.toList) = b := ⟨_, rfl⟩
  have hi := fun w hc => index_one B x s w hc
  rw [hb] at hi ⊢
  clear hb
  go_enter Tryz.func190, Tryz.ntmps190
  go_wp2_with fail
  refine (hi _ hc).mono ?_
  rintro e w1 ⟨rfl, rfl⟩
  cases b <;>
  · go_wp2_with fail
    go_ret
    exact ⟨rfl, rfl⟩
theorem is_rd {W : World} {R B : Nat} {ts : List Tk} (h : Rdr W R ts) (s : ByteArray) (hc : W.cell? ⟨B, 0, none⟩ = some (.string s)) (hB : B < W.heap.size) :
    Calls Tryz.prog 160 #[.pointer (some ⟨R, 0, none⟩), .slice (some ⟨B, 0, none⟩) 1 1] W fun e W' => e = .returned (.bool (isW s ts)) ∧ Below W.heap.size W W' := by
  have H := Lib.hid h
  clear h
  go_enter Tryz.func160, Tryz.ntmps160
  go_wp2_with fail
  refine (next_rd H.out).mono ?_
  rintro e w1 ⟨rfl, hb⟩
  have hB1 : B < w1.heap.size := Nat.lt_of_lt_of_le hB hb.size
  have hcc : ∀ ob, (w1.alloc ob).cell? ⟨B, 0, none⟩ = some (.string s) := fun ob => by
    rw [World.cell?_alloc_past _ _ _ (by exact hB1)]
    exact (hb.cell (p := ⟨B, 0, none⟩) (by exact hB)).trans hc
  have hw : isW s ts = ((decide ((hd ts).k = 1) || decide ((hd ts).k = 3)) && ((hd ts).s.toList == s.toList)) := rfl
  have HW := Lib.hid hw
  have HB := Lib.hid hb
  have HC := Lib.hid (fun ob => contains_one B (hd ts).s s (w1.alloc ob) (hcc ob))
  clear hw hb hc hB hB1 hcc H
  generalize (hd ts).k = k at *
  generalize (hd ts).s = x at *
  by_cases h1 : k = 1
  · subst h1
    have HW2 : Hid (isW s ts = (x.toList == s.toList)) := Lib.hid (by rw [HW.out]; simp)
    clear HW
    go_wp2_with fail
    refine (HC.out _).mono ?_
    rintro e w2 ⟨rfl, rfl⟩
    go_wp2_with fail
    go_ret
    exact ⟨by rw [HW2.out]; rfl, HB.out.alloc HB.out.size _⟩
  · have e1 : (k == 1) = false := by simpa using h1
    by_cases h3 : k = 3
    · subst h3
      have HW2 : Hid (isW s ts = (x.toList == s.toList)) := Lib.hid (by rw [HW.out]; simp)
      clear HW h1
      go_wp2_with fail
      refine (HC.out _).mono ?_
      rintro e w2 ⟨rfl, rfl⟩
      go_wp2_with fail
      go_ret
      exact ⟨by rw [HW2.out]; rfl, HB.out.alloc HB.out.size _⟩
    · have e3 : (k == 3) = false := by simpa using h3
      have HW2 : Hid (isW s ts = false) := Lib.hid (by rw [HW.out]; simp [h1, h3])
      clear HW h1 h3
      go_wp2_with fail
      go_ret
      exact ⟨by rw [HW2.out]; rfl, HB.out.alloc HB.out.size _⟩
end Go.Proofs.YtjoiflokekebkaaGreatDoor
end

section
/- Walks: a word that may stand there, one that must, a name. -/
namespace Go.Proofs.YtjoiflokekebkaaGreatDoor
open Go.RowKit

theorem isW_k {s : ByteArray} {ts : List Tk} (h : isW s ts = true) : (hd ts).k ≠ 0 := by
  intro e
  simp [isW, e] at h
theorem named_k {g : Bool} {ts : List Tk} (h : namedB g (hd ts) = true) : (hd ts).k ≠ 0 := by
  intro e
  simp [namedB, e] at h
theorem grown_bel {w w' : World} {B R : Nat} (h : Below B w w') (hB : w.heap.size ≤ B) : w.grownBy w' (some R) :=
  ⟨h.os, h.tape, h.output, h.size, fun k hk _ => h.block k (by omega)⟩
theorem grown_then {w w1 w2 : World} {B R : Nat} (h : w.grownBy w1 (some R)) (k : Below B w1 w2) (hB : w.heap.size ≤ B) : w.grownBy w2 (some R) :=
  ⟨k.os.trans h.os, k.tape.trans h.tape, k.output.trans h.output, Nat.le_trans h.size k.size, fun j hj hr => (k.block j (by omega)).trans (h.block j hj hr)⟩

/-- A word that is taken if it is there. -/
def Opt (s : ByteArray) (W : World) (R : Nat) (ts : List Tk) (e : Ending) (W' : World) : Prop :=
  W.grownBy W' (some R) ∧ ((isW s ts = true ∧ e = .returned (.bool true) ∧ Rdr W' R ts.tail) ∨ (isW s ts = false ∧ e = .returned (.bool false) ∧ Rdr W' R ts))
theorem opt_rd {W : World} {R : Nat} {ts : List Tk} (h : Rdr W R ts) (s : ByteArray) :
    Calls Tryz.prog 159 #[.pointer (some ⟨R, 0, none⟩), .string s] W fun e W' => Opt s W R ts e W' := by
  have H := Lib.hid h
  have hR := h.lt
  have hnew : (W.alloc (.cells #[.string s] 9)).cell? ⟨W.heap.size, 0, none⟩ = some (.string s) := blk_cell (heap_alloc_new W _) 0
  have HN := Lib.hid hnew
  have HB := Lib.hid (bel_one hR (.cells #[.string s] 9))
  have HA := Lib.hid ((Below.refl W.heap.size W).alloc (Nat.le_refl _) (.cells #[.string s] 9))
  clear h hnew
  go_enter Tryz.func159, Tryz.ntmps159
  go_wp2_with fail
  refine (is_rd (H.out.below HB.out (by omega)) s HN.out (by simp)).mono ?_
  rintro e w1 ⟨rfl, hb⟩
  have HB1 := Lib.hid (HB.out.trans (hb.mono (by simp; omega)))
  have HA1 := Lib.hid (HA.out.trans (hb.mono (by simp)))
  clear hb
  cases hw : isW s ts with
  | true =>
    have HT := Lib.hid (take_rd (H.out.below HB1.out (by omega)) (isW_k hw))
    have HW := Lib.hid hw
    clear hw
    go_wp2_with fail
    refine HT.out.mono ?_
    rintro e w2 ⟨rfl, hg, hr⟩
    go_wp2_with fail
    go_ret
    exact ⟨World.grownBy.trans (grown_bel HA1.out (Nat.le_refl _)) hg, .inl ⟨HW.out, rfl, hr⟩⟩
  | false =>
    have HW := Lib.hid hw
    clear hw
    go_wp2_with fail
    go_ret
    exact ⟨grown_bel HA1.out (Nat.le_refl _), .inr ⟨HW.out, rfl, H.out.below HB1.out (by omega)⟩⟩
set_option maxRecDepth 100000 in
theorem must_rd {W : World} {R : Nat} {ts : List Tk} (h : Rdr W R ts) (s : ByteArray) :
    Calls Tryz.prog 161 #[.pointer (some ⟨R, 0, none⟩), .string s] W fun e W' => Does (must s) (fun _ v _ => v = .tuple #[]) W R ts e W' := by
  have H := Lib.hid h
  clear h
  go_enter Tryz.func161, Tryz.ntmps161
  go_wp2_with fail
  refine (opt_rd H.out s).mono ?_
  rintro e w1 ⟨hg, ⟨hw, rfl, hr⟩ | ⟨hw, rfl, hr⟩⟩
  · have HG := Lib.hid hg
    have HR := Lib.hid hr
    have HM : Hid (must s ts = .ok ((), ts.tail)) := Lib.hid (by unfold must; rw [if_pos hw])
    clear hg hr hw
    go_wp2_with fail
    go_end0
    exact ⟨HG.out, .inl ⟨(), ts.tail, _, HM.out, rfl, rfl, HR.out, by simp⟩⟩
  · have HG := Lib.hid hg
    have HR := Lib.hid hr
    have HM : Hid (must s ts = .error (60, (hd ts).at_)) := Lib.hid (by unfold must; rw [if_neg (by rw [hw]; decide)])
    clear hg hr hw
    go_wp2_with fail
    refine (stop_rd HR.out 60).mono ?_
    rintro e w2 ⟨rfl, hb⟩
    go_wp2_with fail
    exact ⟨rfl, grown_then HG.out hb HG.out.size, .inr ⟨60, _, HM.out, rfl⟩⟩
theorem named_rd {W : World} {R : Nat} {ts : List Tk} (h : Rdr W R ts) (g : Bool) :
    Calls Tryz.prog 192 #[.pointer (some ⟨R, 0, none⟩), .bool g] W fun e W' => e = .returned (.bool (namedB g (hd ts))) ∧ Below W.heap.size W W' := by
  have H := Lib.hid h
  have htx : (hd ts).s.size ≤ 1000000 := by
    have := h.ok.txt
    cases ts with
    | nil => exact absurd rfl h.ok.ne
    | cons t r => exact this t (by simp)
  clear h
  go_enter Tryz.func192, Tryz.ntmps192
  go_wp2_with fail
  refine (next_rd H.out).mono ?_
  rintro e w1 ⟨rfl, hb⟩
  have hw : namedB g (hd ts) = (decide ((hd ts).k = 1) && !resB (hd ts).s && (upperB (hd ts).s.data.toList == g)) := rfl
  have HW := Lib.hid hw
  have HB := Lib.hid hb
  have HRS := Lib.hid (fun w => reserved_any (hd ts).s w)
  have HUP := Lib.hid (fun w => upper_any (hd ts).s (by omega) w)
  clear hw hb H htx
  generalize (hd ts).k = k at *
  generalize (hd ts).s = x at *
  by_cases h1 : k = 1
  · subst h1
    go_wp2_with fail
    refine (HRS.out _).mono ?_
    rintro e w2 ⟨rfl, rfl⟩
    cases hr : resB x with
    | true =>
      have HW2 : Hid (namedB g (hd ts) = false) := Lib.hid (by rw [HW.out, hr]; simp)
      clear HW hr
      go_wp2_with fail
      go_ret
      exact ⟨by rw [HW2.out]; rfl, HB.out.alloc HB.out.size _⟩
    | false =>
      have HW2 : Hid (namedB g (hd ts) = (upperB x.data.toList == g)) := Lib.hid (by rw [HW.out, hr]; simp)
      clear HW hr
      go_wp2_with fail
      refine (HUP.out _).mono ?_
      rintro e w3 ⟨rfl, rfl⟩
      cases hu : upperB x.data.toList <;> cases g <;>
      · have HW3 := HW2
        rw [hu] at HW3
        clear HW2 hu
        go_wp2_with fail
        go_ret
        exact ⟨by rw [HW3.out]; rfl, HB.out.alloc HB.out.size _⟩
  · have e1 : (k == 1) = false := by simpa using h1
    have HW2 : Hid (namedB g (hd ts) = false) := Lib.hid (by rw [HW.out]; simp [h1])
    clear HW h1
    go_wp2_with fail
    go_ret
    exact ⟨by rw [HW2.out]; rfl, HB.out.alloc HB.out.size _⟩
set_option maxRecDepth 100000 in
theorem name_rd {W : World} {R : Nat} {ts : List Tk} (h : Rdr W R ts) (g : Bool) :
    Calls Tryz.prog 162 #[.pointer (some ⟨R, 0, none⟩), .bool g] W fun e W' => Does (name g) (fun _ v x => v = .string x) W R ts e W' := by
  have H := Lib.hid h
  have hR := h.lt
  have hf := tok_text
  clear h
  go_enter Tryz.func162, Tryz.ntmps162
  go_wp2_with fail
  refine (named_rd H.out g).mono ?_
  rintro e w1 ⟨rfl, hb⟩
  have HR1 := Lib.hid (H.out.below hb hR)
  have HB := Lib.hid hb
  clear hb
  cases hn : namedB g (hd ts) with
  | true =>
    have HM : Hid (name g ts = .ok ((hd ts).s, ts.tail)) := Lib.hid (by unfold name; rw [if_pos hn])
    have HT := Lib.hid (take_rd HR1.out (named_k hn))
    clear hn
    go_wp2_with fail
    refine HT.out.mono ?_
    rintro e w2 ⟨rfl, hg, hr⟩
    go_wp2_with fail
    go_ret
    exact ⟨World.grownBy.trans (grown_bel HB.out (Nat.le_refl _)) hg, .inl ⟨_, ts.tail, _, HM.out, rfl, rfl, hr, by simp⟩⟩
  | false =>
    have HM : Hid (name g ts = .error (60, (hd ts).at_)) := Lib.hid (by unfold name; rw [if_neg (by rw [hn]; decide)])
    clear hn
    go_wp2_with fail
    refine (stop_rd HR1.out 60).mono ?_
    rintro e w2 ⟨rfl, hb⟩
    go_wp2_with fail
    exact ⟨rfl, grown_then (grown_bel HB.out (Nat.le_refl _)) hb HB.out.size, .inr ⟨60, _, HM.out, rfl⟩⟩
end Go.Proofs.YtjoiflokekebkaaGreatDoor
end

section
/- Walks: what is kept, and plain steps of lists. -/
namespace Go.Proofs.YtjoiflokekebkaaGreatDoor
open Go.RowKit

section
variable {W W' W1 : World} {R : Nat} {ts : List Tk} {row : Option Nat}
theorem Rdr.grown (h : Rdr W R ts) (hg : W.grownBy W' row) (hr : ∀ k, row = some k → R < k) : Rdr W' R ts := by
  have hlt := h.lt
  obtain ⟨⟨T, o, c, h1, h2, h3, h4⟩, h5⟩ := h
  have hh : ∀ k, k ≤ R → W'.heap[k]? = W.heap[k]? := fun k hk => hg.block k (by omega) (fun e => by have := hr k e.symm; omega)
  refine ⟨⟨T, o, c, (hh R (Nat.le_refl _)).trans h1, h2, h3, fun i t ht => ?_⟩, h5⟩
  have hc : ∀ j, W'.cell? ⟨T, j, none⟩ = W.cell? ⟨T, j, none⟩ := fun j => by simp [World.cell?, hh T (by omega)]
  rw [hc, hc, hc, hc]
  exact h4 i t ht
theorem grown_own (h : W.grownBy W' (some R)) (k : W'.grownBy W1 row) (hr : ∀ j, row = some j → W.heap.size ≤ j) : W.grownBy W1 (some R) :=
  ⟨k.os.trans h.os, k.tape.trans h.tape, k.output.trans h.output, Nat.le_trans h.size k.size, fun j hj hne => (k.block j (Nat.lt_of_lt_of_le hj h.size) (fun e => by have := hr j e.symm; omega)).trans (h.block j hj hne)⟩
theorem grown_alloc (h : W.grownBy W' (some R)) (o : Obj) : W.grownBy (W'.alloc o) (some R) := World.grownBy.trans h (World.grownBy_alloc _ _ _)
theorem grown_set (h : W.grownBy W' (some R)) {p : Addr} (hp : W.heap.size ≤ p.block) (u : Value) : W.grownBy (W'.setCell p u) (some R) :=
  ⟨h.os, h.tape, h.output, by rw [World.size_setCell]; exact h.size, fun j hj hne => (Below.heap_setCell W' p u j (by omega)).trans (h.block j hj hne)⟩
/-- A row's own block is new. -/
theorem Rd.new {n : Nat} {v : Value} {e : TypeId} {sz : Nat} {l : List (List D)} (h : Rd W (fun k => n ≤ k) v (.row e sz l)) : ∀ k, v.ownBlock = some k → n ≤ k ∧ k < W.heap.size := fun k hk => by
  obtain ⟨xs, ho, h1⟩ := h.owns
  exact ⟨h1 k hk, blk_lt (row_lt ho k hk).2.choose_spec⟩
theorem Rd.kept {n : Nat} {v : Value} {d : D} (h : Rd W (fun k => n ≤ k) v d) (hg : W.grownBy W' (some R)) (hR : R < n) : Rd W' (fun k => n ≤ k) v d := h.grown hg (fun k hk e => by injection e; omega)
theorem Rds.kept {n : Nat} {us : List Value} {ds : List D} (h : Rds W (fun k => n ≤ k) us ds) (hg : W.grownBy W' (some R)) (hR : R < n) : Rds W' (fun k => n ≤ k) us ds := h.grown hg (fun k hk e => by injection e; omega)
end
/-- Only cells of blocks from lo up to hi have been written. -/
structure Put (lo hi : Nat) (w w' : World) : Prop where
  os : w'.os = w.os
  tape : w'.tape = w.tape
  output : w'.output = w.output
  size : w'.heap.size = w.heap.size
  block : ∀ k, (k < lo ∨ hi ≤ k) → w'.heap[k]? = w.heap[k]?
theorem Put.refl (lo hi : Nat) (w : World) : Put lo hi w w := ⟨rfl, rfl, rfl, rfl, fun _ _ => rfl⟩
section
variable {lo hi R : Nat} {W w w' : World} {ts : List Tk}
theorem Put.set (h : Put lo hi w w') {p : Addr} (h1 : lo ≤ p.block) (h2 : p.block < hi) (u : Value) : Put lo hi w (w'.setCell p u) :=
  ⟨h.os, h.tape, h.output, by rw [World.size_setCell]; exact h.size, fun k hk => (Below.heap_setCell w' p u k (by omega)).trans (h.block k hk)⟩
theorem Put.grown (h : Put lo hi w w') (hg : W.grownBy w (some R)) (hl : W.heap.size ≤ lo) : W.grownBy w' (some R) :=
  ⟨h.os.trans hg.os, h.tape.trans hg.tape, h.output.trans hg.output, by rw [h.size]; exact hg.size, fun k hk hne => (h.block k (.inl (by omega))).trans (hg.block k hk hne)⟩
theorem Rdr.put (hr : Rdr w R ts) (h : Put lo hi w w') (hl : R < lo) : Rdr w' R ts :=
  hr.below (B := lo) ⟨h.os, h.tape, h.output, by rw [h.size]; exact Nat.le_refl _, fun k hk => h.block k (.inl hk)⟩ hl
theorem Rd.put {n : Nat} {u : Value} {d : D} (hd : Rd w (fun j => n ≤ j) u d) (h : Put lo hi w w') (hn : hi ≤ n) : Rd w' (fun j => n ≤ j) u d := hd.step (fun k hk _ => h.block k (.inr (by omega)))
theorem Bx.put {t : TypeId} {x : Nat} {cs : Array Value} (hx : Bx t w x cs) (h : Put lo hi w w') (hn : x < lo ∨ hi ≤ x) : Bx t w' x cs := (h.block x hn).trans hx
end
section
variable {α : Type} {fin : ByteArray} {p : Ps α} {n : Nat} {acc : List α} {ts us : List Tk} {x : α}
abbrev comma : ByteArray := ⟨#[44]⟩
theorem more_t (hw : isW comma ts = true) (hx : p ts.tail = .ok (x, us)) : ((moreP fin p (n + 1)).bd fun l => Ps.ret (acc ++ l)) ts = ((moreP fin p n).bd fun l => Ps.ret ((acc ++ [x]) ++ l)) us := by
  have h1 : moreP fin p (n + 1) ts = (p.bd fun x => (moreP fin p n).bd fun l => .ret (x :: l)) ts.tail := optE_t hw
  rw [Ps.bd_ok hx] at h1
  unfold Ps.bd at h1 ⊢
  rw [h1]
  cases moreP fin p n us with
  | error e => rfl
  | ok q => simp [Ps.ret]
theorem more_te {e : Int × Int} (hw : isW comma ts = true) (hx : p ts.tail = .error e) : ((moreP fin p (n + 1)).bd fun l => Ps.ret (acc ++ l)) ts = .error e := by
  have h1 : moreP fin p (n + 1) ts = (p.bd fun x => (moreP fin p n).bd fun l => .ret (x :: l)) ts.tail := optE_t hw
  rw [Ps.bd_err hx] at h1
  exact Ps.bd_err h1
theorem more_f (hw : isW comma ts = false) (hx : must fin ts = .ok ((), us)) : ((moreP fin p (n + 1)).bd fun l => Ps.ret (acc ++ l)) ts = .ok (acc, us) := by
  have h1 : moreP fin p (n + 1) ts = ((must fin).bd fun _ => .ret []) ts := optE_f hw
  rw [Ps.bd_ok hx] at h1
  rw [Ps.bd_ok h1]
  simp [Ps.ret]
theorem more_fe {e : Int × Int} (hw : isW comma ts = false) (hx : must fin ts = .error e) : ((moreP fin p (n + 1)).bd fun l => Ps.ret (acc ++ l)) ts = .error e := by
  have h1 : moreP fin p (n + 1) ts = ((must fin).bd fun _ => .ret []) ts := optE_f hw
  rw [Ps.bd_err hx] at h1
  exact Ps.bd_err h1
theorem list_t (hw : isW fin ts = true) : listP fin p ts = .ok ([], ts.tail) := by rw [listP, optE_t hw]; rfl
theorem list_f (hw : isW fin ts = false) (hx : p ts = .ok (x, us)) : listP fin p ts = ((moreP fin p (us.length + 1)).bd fun l => Ps.ret ([x] ++ l)) us := by rw [listP, optE_f hw, Ps.bd_ok hx]; rfl
theorem list_fe {e : Int × Int} (hw : isW fin ts = false) (hx : p ts = .error e) : listP fin p ts = .error e := by rw [listP, optE_f hw, Ps.bd_err hx]
end
end Go.Proofs.YtjoiflokekebkaaGreatDoor
end

section
/- Walks: a type, a field, a variant. -/
namespace Go.Proofs.YtjoiflokekebkaaGreatDoor
open Go.RowKit

theorem Bx.kept {t : TypeId} {W W' : World} {x R : Nat} {cs : Array Value} (h : Bx t W x cs) (hg : W.grownBy W' (some R)) (hne : R ≠ x) : Bx t W' x cs :=
  (hg.block x (blk_lt h) (fun e => hne (by injection e with e; exact e.symm))).trans h
theorem Rd.v_eq {W : World} {ok : Nat → Prop} {u x : Value} (h : Rd W ok u (.v x)) : u = x := by
  cases h
  rfl
theorem Leads.ty {W W' : World} {v : Value} {x : Ty} (h : Leads W Ty.d W' v x) : ∃ k n l A c, x = .mk k n l ∧ v = .agg #[.int .i64 k, .string n, .slice A l.length c] ∧ Rd W' (fun j => W.heap.size ≤ j) (.slice A l.length c) (.row 37 3 (Ty.ds l)) := by
  obtain ⟨cs, rfl, hc⟩ := h
  cases x with
  | mk k n l =>
    simp only [Ty.d] at hc
    match cs, hc with
    | [a, b, u], hc =>
      obtain ⟨h1, h2, h3, _⟩ := hc
      obtain rfl := h1.v_eq
      obtain rfl := h2.v_eq
      have hl : ∀ l : List Ty, (Ty.ds l).length = l.length := fun l => by induction l with
        | nil => simp [Ty.ds]
        | cons x a ih => simp [Ty.ds, ih]
      obtain ⟨A, c, rfl⟩ := h3.slice
      rw [hl] at h3 ⊢
      exact ⟨k, n, l, A, c, rfl, rfl, h3⟩
theorem Leads.ty_mk {W W' : World} {k : Int} {n : ByteArray} {l : List Ty} {u : Value} (h : Rd W' (fun j => W.heap.size ≤ j) u (.row 37 3 (Ty.ds l))) : Leads W Ty.d W' (.agg #[.int .i64 k, .string n, u]) (.mk k n l) :=
  ⟨[.int .i64 k, .string n, u], rfl, by simp only [Ty.d]; exact ⟨.v _, .v _, h, trivial⟩⟩
theorem Leads.ty_nil {W W' : World} {k : Int} {n : ByteArray} : Leads W Ty.d W' (.agg #[.int .i64 k, .string n, .slice none 0 0]) (.mk k n []) := Leads.ty_mk (by simp only [Ty.ds]; exact Rd.nil _ _ _ _)
theorem mf (fn : Fn) (first cap : Array Value) (w : World) : (Instr.makeFunc fn first cap).run Tryz.prog w = .ok (.func fn first cap) w := rfl

/-- The contract of a type's reader. -/
def TyOk (k : Nat) : Prop := ∀ (d : Int), 0 ≤ d → d + k = 61 → ∀ (W : World) (R : Nat) (ts : List Tk), Rdr W R ts →
  Calls Tryz.prog 193 #[.pointer (some ⟨R, 0, none⟩), .int .i64 d] W fun e W' => Does (tyP k) (Leads W Ty.d) W R ts e W'
set_option maxRecDepth 100000 in
theorem in_rd {k : Nat} (ih : TyOk k) (K d : Int) (h0 : 0 ≤ d) (hd : d + 1 + k = 61) {W : World} {R a b : Nat} {ts : List Tk} (h : Rdr W R ts) (ha : Bx 111 W a #[.pointer (some ⟨R, 0, none⟩)]) (hb : Bx 3 W b #[.int .i64 d]) :
    Calls Tryz.prog 214 #[.int .i64 K, .pointer (some ⟨a, 0, none⟩), .pointer (some ⟨b, 0, none⟩)] W fun e W' => Does ((tyP k).bd fun t => .ret (.mk K noB [t])) (Leads W Ty.d) W R ts e W' := by
  have hR := h.lt
  have la := blk_lt ha
  have lb := blk_lt hb
  have ca : ∀ o, (W.alloc o).cell? ⟨a, 0, none⟩ = some (.pointer (some ⟨R, 0, none⟩)) := fun o => blk_cell (ha.alloc o) 0
  have cb : ∀ o, (W.alloc o).cell? ⟨b, 0, none⟩ = some (.int .i64 d) := fun o => blk_cell (hb.alloc o) 0
  have H := Lib.hid h
  have hd61 : d ≤ 61 := by omega
  have HC := Lib.hid (fun w hr => ih (d + 1) (by omega) hd w R ts hr)
  clear h ha hb hd
  go_enter Tryz.func214, Tryz.ntmps214
  go_wp2_with fail
  have HB := Lib.hid (bel_one hR (.cells #[.int .i64 0, .string ⟨#[]⟩, .slice none 0 0] 37))
  have hx : Bx 37 (W.alloc (.cells #[.int .i64 0, .string ⟨#[]⟩, .slice none 0 0] 37)) W.heap.size #[.int .i64 0, .string ⟨#[]⟩, .slice none 0 0] := .newAt rfl
  have HX := Lib.hid hx
  have HG := Lib.hid (World.grownBy_alloc W (.cells #[.int .i64 0, .string ⟨#[]⟩, .slice none 0 0] 37) (some R))
  have HN : Hid ((W.alloc (.cells #[.int .i64 0, .string ⟨#[]⟩, .slice none 0 0] 37)).heap.size = W.heap.size + 1) := Lib.hid (by simp)
  have HR1 := Lib.hid (H.out.below HB.out (by omega))
  clear hx ca cb
  generalize W.alloc (.cells #[.int .i64 0, .string ⟨#[]⟩, .slice none 0 0] 37) = w1 at *
  refine (HC.out _ HR1.out).mono ?_
  rintro e w2 ⟨hg, ⟨x, us, v, hp, rfl, hv, hr, hle⟩ | ⟨er, at_, hp, rfl⟩⟩
  · obtain ⟨k', n', l', A, c, rfl, rfl, hl⟩ := hv.ty
    have HX2 := Lib.hid (HX.out.kept hg (by omega))
    have HG2 := Lib.hid (World.grownBy.trans HG.out hg)
    have HP := Lib.hid hp
    have HRR := Lib.hid hr
    have HLE := Lib.hid hle
    have hs2 : w1.heap.size ≤ w2.heap.size := hg.size
    have HRD : Hid (Rds w2 (fun j => w1.heap.size ≤ j) [.int .i64 k', .string n', .slice A l'.length c] (Ty.d (.mk k' n' l'))) := Lib.hid (by simp only [Ty.d]; exact ⟨.v _, .v _, hl, trivial⟩)
    have hlt2 : W.heap.size < w2.heap.size := by have := HN.out; omega
    obtain ⟨lx, cx, fx⟩ := HX2.out.see
    clear hg hp hv hr hl hle
    go_wp2_with fail
    have hfar : ∀ {w : World} {x : Value} {i : Nat}, Rds w (fun j => w1.heap.size ≤ j) [.int .i64 k', .string n', .slice A l'.length c] (Ty.d (.mk k' n' l')) → Rds (w.setCell ⟨W.heap.size, i, none⟩ x) (fun j => w1.heap.size ≤ j) [.int .i64 k', .string n', .slice A l'.length c] (Ty.d (.mk k' n' l')) := fun h => h.far (fun k hk => by have := HN.out; simp only; omega) _
    have hlit := Rd.lit (ok := fun j => W.heap.size ≤ j) _ (e := 37) (sz := 3) (hfar (x := .slice (some ⟨w2.heap.size, 0, none⟩) 1 1) (i := 2) (hfar (x := .string ⟨#[]⟩) (i := 1) (hfar (x := .int .i64 K) (i := 0) HRD.out))) (by simp [Ty.d]) (fun j hj => by simp at hj; omega) (fun j hj => by have := HN.out; omega)
    simp only [World.size_setCell] at hlit
    refine bodyPost_ret (v := .agg #[.int .i64 K, .string ⟨#[]⟩, .slice (some ⟨w2.heap.size, 0, none⟩) 1 1]) (by (simp only [results, Tryz.results214]); go_simp) rfl ⟨?_, .inl ⟨_, us, _, Ps.bd_ok HP.out, rfl, Leads.ty_mk (by simpa [Ty.ds] using hlit), ?_, HLE.out⟩⟩
    · exact grown_alloc (grown_set (grown_set (grown_set HG2.out (by simp) _) (by simp) _) (by simp) _) _
    · exact (((HRR.out.far (by simpa using hR) _).far (by simpa using hR) _).far (by simpa using hR) _).below ((Below.refl (R + 1) _).alloc (by simp; omega) _) (by omega)
  · go_wp2_with fail
    exact ⟨rfl, World.grownBy.trans HG.out hg, .inr ⟨er, at_, Ps.bd_err hp, rfl⟩⟩
end Go.Proofs.YtjoiflokekebkaaGreatDoor
end

section
/- Walks: a type. -/
namespace Go.Proofs.YtjoiflokekebkaaGreatDoor
open Go.RowKit

/-- What stands in memory while a type is read. -/
structure Tf (W w : World) (R : Nat) (d : Int) : Prop where
  g : W.grownBy w (some R)
  lt : R < W.heap.size
  a : Bx 111 w W.heap.size #[.pointer (some ⟨R, 0, none⟩)]
  b : Bx 3 w (W.heap.size + 1) #[.int .i64 d]
  c : Bx 37 w (W.heap.size + 2) #[.int .i64 0, .string ⟨#[]⟩, .slice none 0 0]
theorem Tf.kept {W w w' : World} {R : Nat} {d : Int} (h : Tf W w R d) (hg : w.grownBy w' (some R)) : Tf W w' R d :=
  ⟨World.grownBy.trans h.g hg, h.lt, h.a.kept hg (by have := h.lt; omega), h.b.kept hg (by have := h.lt; omega), h.c.kept hg (by have := h.lt; omega)⟩
theorem Tf.begin {W : World} {R : Nat} (hR : R < W.heap.size) (d : Int) : Tf W (((W.alloc (.cells #[.pointer (some ⟨R, 0, none⟩)] 111)).alloc (.cells #[.int .i64 d] 3)).alloc (.cells #[.int .i64 0, .string ⟨#[]⟩, .slice none 0 0] 37)) R d :=
  ⟨World.grownBy.trans (World.grownBy.trans (World.grownBy_alloc _ _ _) (World.grownBy_alloc _ _ _)) (World.grownBy_alloc _ _ _), hR, ((Bx.newAt rfl).alloc _).alloc _, (Bx.newAt (by simp)).alloc _, Bx.newAt (by simp)⟩
theorem Tf.ends {W w : World} {R : Nat} {d : Int} (T : Tf W w R d) {us : List Tk} (hr : Rdr w R us) {K : Int} {nm : ByteArray} {u : Value} {l : List Ty} (hl : Rd w (fun j => W.heap.size + 3 ≤ j) u (.row 37 3 (Ty.ds l))) :
    W.grownBy (((w.setCell ⟨W.heap.size + 2, 0, none⟩ (.int .i64 K)).setCell ⟨W.heap.size + 2, 1, none⟩ (.string nm)).setCell ⟨W.heap.size + 2, 2, none⟩ u) (some R) ∧
    Rdr (((w.setCell ⟨W.heap.size + 2, 0, none⟩ (.int .i64 K)).setCell ⟨W.heap.size + 2, 1, none⟩ (.string nm)).setCell ⟨W.heap.size + 2, 2, none⟩ u) R us ∧
    Leads W Ty.d (((w.setCell ⟨W.heap.size + 2, 0, none⟩ (.int .i64 K)).setCell ⟨W.heap.size + 2, 1, none⟩ (.string nm)).setCell ⟨W.heap.size + 2, 2, none⟩ u) (.agg #[.int .i64 K, .string nm, u]) (.mk K nm l) := by
  have hlt := T.lt
  refine ⟨grown_set (grown_set (grown_set T.g (by simp) _) (by simp) _) (by simp) _, ((hr.far (by simp; omega) _).far (by simp; omega) _).far (by simp; omega) _, Leads.ty_mk ?_⟩
  exact (((hl.far (fun k hk => by simp only; omega) _).far (fun k hk => by simp only; omega) _).far (fun k hk => by simp only; omega) _).mono (fun k hk => by omega)
theorem Rd.low {w : World} {n m : Nat} {u : Value} {d : D} (h : Rd w (fun j => n ≤ j) u d) (hm : m ≤ n) : Rd w (fun j => m ≤ j) u d := h.mono (fun k hk => Nat.le_trans hm hk)

set_option maxRecDepth 100000 in
set_option maxHeartbeats 2000000 in
theorem ty_rd : ∀ k, TyOk k
  | 0 => fun d h0 hd W R ts h => by
    have h60 : d > 60 := by omega
    have T := Lib.hid (Tf.begin h.lt d)
    have hR := h.lt
    have H := Lib.hid h
    have HB := Lib.hid (((bel_one hR (.cells #[.pointer (some ⟨R, 0, none⟩)] 111)).alloc (by simp; omega) (.cells #[.int .i64 d] 3)).alloc (by simp; omega) (.cells #[.int .i64 0, .string ⟨#[]⟩, .slice none 0 0] 37))
    clear h hd
    go_enter Tryz.func193, Tryz.ntmps193
    go_wp2_with fail
    refine (stop_rd (H.out.below HB.out (by omega)) 61).mono ?_
    rintro e w1 ⟨rfl, hb⟩
    go_wp2_with fail
    exact ⟨rfl, grown_then T.out.g hb T.out.g.size, .inr ⟨61, _, rfl, rfl⟩⟩
  | k + 1 => fun d h0 hd W R ts h => by
    have h60 : ¬ d > 60 := by omega
    have hk : d + 1 + (k : Int) = 61 := by omega
    have IH := Lib.hid (fun K w a b us (h : Rdr w R us) ha hb => in_rd (ty_rd k) K d h0 hk (a := a) (b := b) h ha hb)
    have T := Lib.hid (Tf.begin h.lt d)
    have hR := h.lt
    have HB := Lib.hid (((bel_one hR (.cells #[.pointer (some ⟨R, 0, none⟩)] 111)).alloc (by simp; omega) (.cells #[.int .i64 d] 3)).alloc (by simp; omega) (.cells #[.int .i64 0, .string ⟨#[]⟩, .slice none 0 0] 37))
    have HR := Lib.hid (h.below HB.out (by omega))
    have hmf := mf
    clear h hd hk HB
    go_enter Tryz.func193, Tryz.ntmps193
    go_wp2_with fail
    generalize (((W.alloc (.cells #[.pointer (some ⟨R, 0, none⟩)] 111)).alloc (.cells #[.int .i64 d] 3)).alloc (.cells #[.int .i64 0, .string ⟨#[]⟩, .slice none 0 0] 37)) = w0 at *
    refine (opt_rd HR.out ⟨#[105, 110, 116]⟩).mono ?_
    rintro e w1 ⟨hg, ⟨hw1, rfl, hr⟩ | ⟨hw1, rfl, hr⟩⟩
    · skip
      have T1 := Lib.hid (T.out.kept hg)
      have HR1 := Lib.hid hr
      have W1 := Lib.hid hw1
      clear hg hr hw1 T HR
      have T := T1
      have HR := HR1
      clear T1 HR1
      obtain ⟨e1, e2, e3⟩ := T.out.ends HR.out (K := 1) (nm := ⟨#[]⟩) (u := (.slice none 0 0)) (l := []) (by simp only [Ty.ds]; exact Rd.nil _ _ _ _)
      have E1 := Lib.hid e1
      have E2 := Lib.hid e2
      have E3 := Lib.hid e3
      clear e1 e2 e3
      obtain ⟨la, ca, fa⟩ := T.out.a.see
      obtain ⟨lb, cb, fb⟩ := T.out.b.see
      obtain ⟨lc, cc, fc⟩ := T.out.c.see
      go_wp2_with fail
      exact bodyPost_ret (v := .agg #[.int .i64 1, .string ⟨#[]⟩, (.slice none 0 0)]) (by (simp only [results, Tryz.results193]); go_simp) rfl ⟨E1.out, .inl ⟨_, ts.tail, _, (by rw [tyP, optE_t W1.out]; rfl), rfl, E3.out, E2.out, by simp⟩⟩
    · skip
      have T1 := Lib.hid (T.out.kept hg)
      have HR1 := Lib.hid hr
      have W1 := Lib.hid hw1
      clear hg hr hw1 T HR
      have T := T1
      have HR := HR1
      clear T1 HR1
      obtain ⟨la, ca, fa⟩ := T.out.a.see
      obtain ⟨lb, cb, fb⟩ := T.out.b.see
      obtain ⟨lc, cc, fc⟩ := T.out.c.see
      go_wp2_with fail
      clear la ca fa lb cb fb lc cc fc
      refine (opt_rd HR.out ⟨#[99, 111]⟩).mono ?_
      rintro e w2 ⟨hg, ⟨hw2, rfl, hr⟩ | ⟨hw2, rfl, hr⟩⟩
      · skip
        have T1 := Lib.hid (T.out.kept hg)
        have HR1 := Lib.hid hr
        have W2 := Lib.hid hw2
        clear hg hr hw2 T HR
        have T := T1
        have HR := HR1
        clear T1 HR1
        obtain ⟨la, ca, fa⟩ := T.out.a.see
        obtain ⟨lb, cb, fb⟩ := T.out.b.see
        obtain ⟨lc, cc, fc⟩ := T.out.c.see
        go_wp2_with fail
        clear la ca fa lb cb fb lc cc fc
        refine (name_rd HR.out false).mono ?_
        rintro e v1 ⟨hg, ⟨x, us, v, hp, rfl, rfl, hr, hle⟩ | ⟨er, at_, hp, rfl⟩⟩
        · have HP := Lib.hid hp
          have HLE := Lib.hid hle
          have T1 := Lib.hid (T.out.kept hg)
          have HR1 := Lib.hid hr
          clear hg hp hr hle T HR
          have T := T1
          have HR := HR1
          clear T1 HR1
          obtain ⟨e1, e2, e3⟩ := T.out.ends HR.out (K := 7) (nm := x) (u := (.slice none 0 0)) (l := []) (by simp only [Ty.ds]; exact Rd.nil _ _ _ _)
          have E1 := Lib.hid e1
          have E2 := Lib.hid e2
          have E3 := Lib.hid e3
          clear e1 e2 e3
          obtain ⟨la, ca, fa⟩ := T.out.a.see
          obtain ⟨lb, cb, fb⟩ := T.out.b.see
          obtain ⟨lc, cc, fc⟩ := T.out.c.see
          go_wp2_with fail
          exact bodyPost_ret (v := .agg #[.int .i64 7, .string x, (.slice none 0 0)]) (by (simp only [results, Tryz.results193]); go_simp) rfl ⟨E1.out, .inl ⟨_, us, _, (by rw [tyP, optE_f W1.out, optE_t W2.out]; exact Ps.bd_ok HP.out), rfl, E3.out, E2.out, (by have := HLE.out; simp at this; omega)⟩⟩
        · go_wp2_with fail
          exact ⟨rfl, World.grownBy.trans T.out.g hg, .inr ⟨er, at_, (by rw [tyP, optE_f W1.out, optE_t W2.out]; exact Ps.bd_err hp), rfl⟩⟩
      · skip
        have T1 := Lib.hid (T.out.kept hg)
        have HR1 := Lib.hid hr
        have W2 := Lib.hid hw2
        clear hg hr hw2 T HR
        have T := T1
        have HR := HR1
        clear T1 HR1
        obtain ⟨la, ca, fa⟩ := T.out.a.see
        obtain ⟨lb, cb, fb⟩ := T.out.b.see
        obtain ⟨lc, cc, fc⟩ := T.out.c.see
        go_wp2_with fail
        clear la ca fa lb cb fb lc cc fc
        refine (opt_rd HR.out ⟨#[98, 111, 120]⟩).mono ?_
        rintro e w3 ⟨hg, ⟨hw3, rfl, hr⟩ | ⟨hw3, rfl, hr⟩⟩
        · skip
          have T1 := Lib.hid (T.out.kept hg)
          have HR1 := Lib.hid hr
          have W3 := Lib.hid hw3
          clear hg hr hw3 T HR
          have T := T1
          have HR := HR1
          clear T1 HR1
          obtain ⟨la, ca, fa⟩ := T.out.a.see
          obtain ⟨lb, cb, fb⟩ := T.out.b.see
          obtain ⟨lc, cc, fc⟩ := T.out.c.see
          go_wp2_with fail
          clear la ca fa lb cb fb lc cc fc
          refine (IH.out 4 _ _ _ _ HR.out T.out.a T.out.b).mono ?_
          rintro e v1 ⟨hg, ⟨x, us, v, hp, rfl, hv, hr, hle⟩ | ⟨er, at_, hp, rfl⟩⟩
          · obtain ⟨k1, n1, l1, A1, c1, rfl, rfl, hl⟩ := hv.ty
            have hs3 : W.heap.size + 3 ≤ _ := Nat.succ_le_of_lt (blk_lt T.out.c)
            have HL := Lib.hid (hl.low hs3)
            have HP := Lib.hid hp
            have HLE := Lib.hid hle
            have T1 := Lib.hid (T.out.kept hg)
            have HR1 := Lib.hid hr
            clear hg hp hr hle hl hv hs3 T HR
            have T := T1
            have HR := HR1
            clear T1 HR1
            obtain ⟨e1, e2, e3⟩ := T.out.ends HR.out (K := k1) (nm := n1) (u := (.slice A1 l1.length c1)) (l := l1) (HL.out)
            have E1 := Lib.hid e1
            have E2 := Lib.hid e2
            have E3 := Lib.hid e3
            clear e1 e2 e3
            obtain ⟨la, ca, fa⟩ := T.out.a.see
            obtain ⟨lb, cb, fb⟩ := T.out.b.see
            obtain ⟨lc, cc, fc⟩ := T.out.c.see
            go_wp2_with fail
            exact bodyPost_ret (v := .agg #[.int .i64 k1, .string n1, (.slice A1 l1.length c1)]) (by (simp only [results, Tryz.results193]); go_simp) rfl ⟨E1.out, .inl ⟨_, us, _, (by rw [tyP, optE_f W1.out, optE_f W2.out, optE_t W3.out]; exact HP.out), rfl, E3.out, E2.out, (by have := HLE.out; simp at this; omega)⟩⟩
          · go_wp2_with fail
            exact ⟨rfl, World.grownBy.trans T.out.g hg, .inr ⟨er, at_, (by rw [tyP, optE_f W1.out, optE_f W2.out, optE_t W3.out]; exact hp), rfl⟩⟩
        · skip
          have T1 := Lib.hid (T.out.kept hg)
          have HR1 := Lib.hid hr
          have W3 := Lib.hid hw3
          clear hg hr hw3 T HR
          have T := T1
          have HR := HR1
          clear T1 HR1
          obtain ⟨la, ca, fa⟩ := T.out.a.see
          obtain ⟨lb, cb, fb⟩ := T.out.b.see
          obtain ⟨lc, cc, fc⟩ := T.out.c.see
          go_wp2_with fail
          clear la ca fa lb cb fb lc cc fc
          refine (opt_rd HR.out ⟨#[38]⟩).mono ?_
          rintro e w4 ⟨hg, ⟨hw4, rfl, hr⟩ | ⟨hw4, rfl, hr⟩⟩
          · skip
            have T1 := Lib.hid (T.out.kept hg)
            have HR1 := Lib.hid hr
            have W4 := Lib.hid hw4
            clear hg hr hw4 T HR
            have T := T1
            have HR := HR1
            clear T1 HR1
            obtain ⟨la, ca, fa⟩ := T.out.a.see
            obtain ⟨lb, cb, fb⟩ := T.out.b.see
            obtain ⟨lc, cc, fc⟩ := T.out.c.see
            go_wp2_with fail
            clear la ca fa lb cb fb lc cc fc
            refine (opt_rd HR.out ⟨#[109, 117, 116]⟩).mono ?_
            rintro e w5 ⟨hg, ⟨hw5, rfl, hr⟩ | ⟨hw5, rfl, hr⟩⟩
            · skip
              have T1 := Lib.hid (T.out.kept hg)
              have HR1 := Lib.hid hr
              have W5 := Lib.hid hw5
              clear hg hr hw5 T HR
              have T := T1
              have HR := HR1
              clear T1 HR1
              obtain ⟨la, ca, fa⟩ := T.out.a.see
              obtain ⟨lb, cb, fb⟩ := T.out.b.see
              obtain ⟨lc, cc, fc⟩ := T.out.c.see
              go_wp2_with fail
              clear la ca fa lb cb fb lc cc fc
              refine (IH.out 6 _ _ _ _ HR.out T.out.a T.out.b).mono ?_
              rintro e v1 ⟨hg, ⟨x, us, v, hp, rfl, hv, hr, hle⟩ | ⟨er, at_, hp, rfl⟩⟩
              · obtain ⟨k1, n1, l1, A1, c1, rfl, rfl, hl⟩ := hv.ty
                have hs3 : W.heap.size + 3 ≤ _ := Nat.succ_le_of_lt (blk_lt T.out.c)
                have HL := Lib.hid (hl.low hs3)
                have HP := Lib.hid hp
                have HLE := Lib.hid hle
                have T1 := Lib.hid (T.out.kept hg)
                have HR1 := Lib.hid hr
                clear hg hp hr hle hl hv hs3 T HR
                have T := T1
                have HR := HR1
                clear T1 HR1
                obtain ⟨e1, e2, e3⟩ := T.out.ends HR.out (K := k1) (nm := n1) (u := (.slice A1 l1.length c1)) (l := l1) (HL.out)
                have E1 := Lib.hid e1
                have E2 := Lib.hid e2
                have E3 := Lib.hid e3
                clear e1 e2 e3
                obtain ⟨la, ca, fa⟩ := T.out.a.see
                obtain ⟨lb, cb, fb⟩ := T.out.b.see
                obtain ⟨lc, cc, fc⟩ := T.out.c.see
                go_wp2_with fail
                exact bodyPost_ret (v := .agg #[.int .i64 k1, .string n1, (.slice A1 l1.length c1)]) (by (simp only [results, Tryz.results193]); go_simp) rfl ⟨E1.out, .inl ⟨_, us, _, (by rw [tyP, optE_f W1.out, optE_f W2.out, optE_f W3.out, optE_t W4.out, optE_t W5.out]; exact HP.out), rfl, E3.out, E2.out, (by have := HLE.out; simp at this; omega)⟩⟩
              · go_wp2_with fail
                exact ⟨rfl, World.grownBy.trans T.out.g hg, .inr ⟨er, at_, (by rw [tyP, optE_f W1.out, optE_f W2.out, optE_f W3.out, optE_t W4.out, optE_t W5.out]; exact hp), rfl⟩⟩
            · skip
              have T1 := Lib.hid (T.out.kept hg)
              have HR1 := Lib.hid hr
              have W5 := Lib.hid hw5
              clear hg hr hw5 T HR
              have T := T1
              have HR := HR1
              clear T1 HR1
              obtain ⟨la, ca, fa⟩ := T.out.a.see
              obtain ⟨lb, cb, fb⟩ := T.out.b.see
              obtain ⟨lc, cc, fc⟩ := T.out.c.see
              go_wp2_with fail
              clear la ca fa lb cb fb lc cc fc
              refine (IH.out 5 _ _ _ _ HR.out T.out.a T.out.b).mono ?_
              rintro e v1 ⟨hg, ⟨x, us, v, hp, rfl, hv, hr, hle⟩ | ⟨er, at_, hp, rfl⟩⟩
              · obtain ⟨k1, n1, l1, A1, c1, rfl, rfl, hl⟩ := hv.ty
                have hs3 : W.heap.size + 3 ≤ _ := Nat.succ_le_of_lt (blk_lt T.out.c)
                have HL := Lib.hid (hl.low hs3)
                have HP := Lib.hid hp
                have HLE := Lib.hid hle
                have T1 := Lib.hid (T.out.kept hg)
                have HR1 := Lib.hid hr
                clear hg hp hr hle hl hv hs3 T HR
                have T := T1
                have HR := HR1
                clear T1 HR1
                obtain ⟨e1, e2, e3⟩ := T.out.ends HR.out (K := k1) (nm := n1) (u := (.slice A1 l1.length c1)) (l := l1) (HL.out)
                have E1 := Lib.hid e1
                have E2 := Lib.hid e2
                have E3 := Lib.hid e3
                clear e1 e2 e3
                obtain ⟨la, ca, fa⟩ := T.out.a.see
                obtain ⟨lb, cb, fb⟩ := T.out.b.see
                obtain ⟨lc, cc, fc⟩ := T.out.c.see
                go_wp2_with fail
                exact bodyPost_ret (v := .agg #[.int .i64 k1, .string n1, (.slice A1 l1.length c1)]) (by (simp only [results, Tryz.results193]); go_simp) rfl ⟨E1.out, .inl ⟨_, us, _, (by rw [tyP, optE_f W1.out, optE_f W2.out, optE_f W3.out, optE_t W4.out, optE_f W5.out]; exact HP.out), rfl, E3.out, E2.out, (by have := HLE.out; simp at this; omega)⟩⟩
              · go_wp2_with fail
                exact ⟨rfl, World.grownBy.trans T.out.g hg, .inr ⟨er, at_, (by rw [tyP, optE_f W1.out, optE_f W2.out, optE_f W3.out, optE_t W4.out, optE_f W5.out]; exact hp), rfl⟩⟩
          · skip
            have T1 := Lib.hid (T.out.kept hg)
            have HR1 := Lib.hid hr
            have W4 := Lib.hid hw4
            clear hg hr hw4 T HR
            have T := T1
            have HR := HR1
            clear T1 HR1
            obtain ⟨la, ca, fa⟩ := T.out.a.see
            obtain ⟨lb, cb, fb⟩ := T.out.b.see
            obtain ⟨lc, cc, fc⟩ := T.out.c.see
            go_wp2_with fail
            clear la ca fa lb cb fb lc cc fc
            refine (name_rd HR.out true).mono ?_
            rintro e v1 ⟨hg, ⟨x, us, v, hp, rfl, rfl, hr, hle⟩ | ⟨er, at_, hp, rfl⟩⟩
            · have HP := Lib.hid hp
              have HLE := Lib.hid hle
              have T1 := Lib.hid (T.out.kept hg)
              have HR1 := Lib.hid hr
              clear hg hp hr hle T HR
              have T := T1
              have HR := HR1
              clear T1 HR1
              obtain ⟨e1, e2, e3⟩ := T.out.ends HR.out (K := 2) (nm := x) (u := (.slice none 0 0)) (l := []) (by simp only [Ty.ds]; exact Rd.nil _ _ _ _)
              have E1 := Lib.hid e1
              have E2 := Lib.hid e2
              have E3 := Lib.hid e3
              clear e1 e2 e3
              obtain ⟨la, ca, fa⟩ := T.out.a.see
              obtain ⟨lb, cb, fb⟩ := T.out.b.see
              obtain ⟨lc, cc, fc⟩ := T.out.c.see
              go_wp2_with fail
              exact bodyPost_ret (v := .agg #[.int .i64 2, .string x, (.slice none 0 0)]) (by (simp only [results, Tryz.results193]); go_simp) rfl ⟨E1.out, .inl ⟨_, us, _, (by rw [tyP, optE_f W1.out, optE_f W2.out, optE_f W3.out, optE_f W4.out]; exact Ps.bd_ok HP.out), rfl, E3.out, E2.out, HLE.out⟩⟩
            · go_wp2_with fail
              exact ⟨rfl, World.grownBy.trans T.out.g hg, .inr ⟨er, at_, (by rw [tyP, optE_f W1.out, optE_f W2.out, optE_f W3.out, optE_f W4.out]; exact Ps.bd_err hp), rfl⟩⟩
end Go.Proofs.YtjoiflokekebkaaGreatDoor
end

section
/- Walks: a field, a variant. -/
namespace Go.Proofs.YtjoiflokekebkaaGreatDoor
open Go.RowKit

theorem four_Field {W : World} {ok : Nat → Prop} {cs : List Value} {x : Fld} (h : Rds W ok cs (Fld.d x)) : ∃ a b c d, cs = [a, b, c, d] ∧ ∀ y ∈ cs, y.oneCell' = true := by
  obtain ⟨n, t⟩ := x
  cases t with
  | mk k m l =>
    simp only [Fld.d, Ty.d] at h
    match cs, h with
    | [a, b, c, d], h =>
      obtain ⟨h1, h2, h3, h4, _⟩ := h
      obtain rfl := h1.v_eq
      obtain rfl := h2.v_eq
      obtain rfl := h3.v_eq
      obtain ⟨A, cc, rfl⟩ := h4.slice
      exact ⟨_, _, _, _, rfl, by simp [Value.oneCell']⟩
theorem four_Variant {W : World} {ok : Nat → Prop} {cs : List Value} {x : Fld} (h : Rds W ok cs (Fld.d x)) : ∃ a b c d, cs = [a, b, c, d] ∧ ∀ y ∈ cs, y.oneCell' = true := four_Field h
/-- A box of a local: a block of the call's own. -/
theorem Bx.set {t : TypeId} {w : World} {x : Nat} {cs : Array Value} (h : Bx t w x cs) (i : Nat) (u : Value) : Bx t (w.setCell ⟨x, i, none⟩ u) x (cs.setIfInBounds i u) := blk_set h i u
theorem Bx.far {t : TypeId} {w : World} {x : Nat} {cs : Array Value} (h : Bx t w x cs) {p : Addr} (hp : x ≠ p.block) (u : Value) : Bx t (w.setCell p u) x cs := blk_far h hp u
theorem Leads.fld_mk {W W' : World} {n : ByteArray} {k : Int} {m : ByteArray} {l : List Ty} {u : Value} (h : Rd W' (fun j => W.heap.size ≤ j) u (.row 37 3 (Ty.ds l))) : Leads W Fld.d W' (.agg #[.string n, .int .i64 k, .string m, u]) ⟨n, .mk k m l⟩ :=
  ⟨[.string n, .int .i64 k, .string m, u], rfl, by simp only [Fld.d, Ty.d]; exact ⟨.v _, .v _, .v _, h, trivial⟩⟩

set_option maxRecDepth 100000 in
set_option maxHeartbeats 2000000 in
theorem field_rd {W : World} {R : Nat} {ts : List Tk} (h : Rdr W R ts) : Calls Tryz.prog 164 #[.pointer (some ⟨R, 0, none⟩)] W fun e W' => Does fieldP (Leads W Fld.d) W R ts e W' := by
  have hR := h.lt
  have HR0 := Lib.hid (h.below (bel_one hR (.cells #[.string ⟨#[]⟩, .int .i64 0, .string ⟨#[]⟩, .slice none 0 0] 79)) (by omega))
  have HG0 := Lib.hid (World.grownBy_alloc W (.cells #[.string ⟨#[]⟩, .int .i64 0, .string ⟨#[]⟩, .slice none 0 0] 79) (some R))
  have HX0 : Hid (Bx 79 (W.alloc (.cells #[.string ⟨#[]⟩, .int .i64 0, .string ⟨#[]⟩, .slice none 0 0] 79)) W.heap.size #[.string ⟨#[]⟩, .int .i64 0, .string ⟨#[]⟩, .slice none 0 0]) := Lib.hid (.newAt rfl)
  clear h
  go_enter Tryz.func164, Tryz.ntmps164
  go_wp2_with fail
  generalize W.alloc (.cells #[.string ⟨#[]⟩, .int .i64 0, .string ⟨#[]⟩, .slice none 0 0] 79) = w0 at *
  refine (name_rd HR0.out false).mono ?_
  rintro e w1 ⟨hg, ⟨x, us, v, hp, rfl, rfl, hr, hle⟩ | ⟨er, at_, hp, rfl⟩⟩
  · have HP1 := Lib.hid hp
    have HLE1 := Lib.hid hle
    have HG1 := Lib.hid (World.grownBy.trans HG0.out hg)
    have HX1 := Lib.hid (HX0.out.kept hg (by omega))
    have HR1 := Lib.hid hr
    have hn1 : W.heap.size < w1.heap.size := blk_lt HX1.out
    clear hp hle hg hr HG0 HX0 HR0
    have HX2 := Lib.hid (HX1.out.alloc (.cells #[.string x, .int .i64 0, .string ⟨#[]⟩, .slice none 0 0] 79))
    have HY2 : Hid (Bx 79 (w1.alloc (.cells #[.string x, .int .i64 0, .string ⟨#[]⟩, .slice none 0 0] 79)) w1.heap.size #[.string x, .int .i64 0, .string ⟨#[]⟩, .slice none 0 0]) := Lib.hid (.newAt rfl)
    have HG2 := Lib.hid (grown_alloc HG1.out (.cells #[.string x, .int .i64 0, .string ⟨#[]⟩, .slice none 0 0] 79))
    have HR2 := Lib.hid (HR1.out.below (bel_one HR1.out.lt (.cells #[.string x, .int .i64 0, .string ⟨#[]⟩, .slice none 0 0] 79)) (by omega))
    go_wp2_with fail
    generalize w1.alloc (.cells #[.string x, .int .i64 0, .string ⟨#[]⟩, .slice none 0 0] 79) = w2 at *
    clear HX1 HG1 HR1
    generalize w1.heap.size = m at *
    refine (must_rd HR2.out ⟨#[58]⟩).mono ?_
    rintro e w3 ⟨hg, ⟨⟨⟩, us2, v, hp, rfl, rfl, hr, hle⟩ | ⟨er, at_, hp, rfl⟩⟩
    · have HP2 := Lib.hid hp
      have HLE2 := Lib.hid hle
      have HG3 := Lib.hid (World.grownBy.trans HG2.out hg)
      have HX3 := Lib.hid (HX2.out.kept hg (by omega))
      have HY3 := Lib.hid (HY2.out.kept hg (by omega))
      have HR3 := Lib.hid hr
      clear hp hle hg hr HG2 HX2 HY2 HR2
      go_wp2_with fail
      refine (ty_rd 61 0 (by omega) (by omega) _ _ _ HR3.out).mono ?_
      rintro e w4 ⟨hg, ⟨t, us3, v, hp, rfl, hv, hr, hle⟩ | ⟨er, at_, hp, rfl⟩⟩
      · obtain ⟨k', n', l', A, c, rfl, rfl, hl⟩ := hv.ty
        have HP3 := Lib.hid hp
        have HLE3 := Lib.hid hle
        have HG4 := Lib.hid (World.grownBy.trans HG3.out hg)
        have HX4 := Lib.hid (HX3.out.kept hg (by omega))
        have HY4 := Lib.hid (HY3.out.kept hg (by omega))
        have HR4 := Lib.hid hr
        have hm3 : m < w3.heap.size := blk_lt HY3.out
        have HL := Lib.hid (hl.low (m := m + 1) (by omega))
        clear hp hle hg hr hl hv HG3 HX3 HY3 HR3
        obtain ⟨lx, cx, fx⟩ := HX4.out.see
        obtain ⟨ly, cy, fy⟩ := HY4.out.see
        have hne1 : (W.heap.size = m) = False := eq_false (by omega)
        have hne2 : (m = W.heap.size) = False := eq_false (by omega)
        go_wp2_with fail
        have HPF : Hid (fieldP ts = .ok (⟨x, .mk k' n' l'⟩, us3)) := Lib.hid (by rw [fieldP, Ps.bd_ok HP1.out, Ps.bd_ok HP2.out, Ps.bd_ok HP3.out]; exact rfl)
        have HPUT : ∀ w', Put W.heap.size (m + 1) w4 w' → Does fieldP (Leads W Fld.d) W R ts (.returned (.agg #[.string x, .int .i64 k', .string n', .slice A l'.length c])) w' := fun w' hput =>
          ⟨hput.grown HG4.out (Nat.le_refl _), .inl ⟨⟨x, .mk k' n' l'⟩, us3, _, HPF.out, rfl, Leads.fld_mk ((HL.out.put hput (Nat.le_refl _)).low (by omega)), HR4.out.put hput hR, by have := HLE1.out; have := HLE2.out; have := HLE3.out; omega⟩⟩
        refine bodyPost_ret (v := .agg #[.string x, .int .i64 k', .string n', .slice A l'.length c]) (by (simp only [results, Tryz.results164]); go_simp) rfl (HPUT _ ?_)
        repeat (first | with_reducible exact Put.refl _ _ _ | (with_reducible refine Put.set ?_ ?_ ?_ _; rotate_left; (simp only; omega); (simp only; omega)))
      · go_wp2_with fail
        exact ⟨rfl, World.grownBy.trans HG3.out hg, .inr ⟨er, at_, (by rw [fieldP, Ps.bd_ok HP1.out, Ps.bd_ok HP2.out]; exact Ps.bd_err hp), rfl⟩⟩
    · go_wp2_with fail
      exact ⟨rfl, World.grownBy.trans HG2.out hg, .inr ⟨er, at_, (by rw [fieldP, Ps.bd_ok HP1.out]; exact Ps.bd_err hp), rfl⟩⟩
  · go_wp2_with fail
    exact ⟨rfl, World.grownBy.trans HG0.out hg, .inr ⟨er, at_, Ps.bd_err hp, rfl⟩⟩
end Go.Proofs.YtjoiflokekebkaaGreatDoor
end

section
/- Walks: a variant, a name as a place. -/
namespace Go.Proofs.YtjoiflokekebkaaGreatDoor
open Go.RowKit

set_option maxRecDepth 100000 in
set_option maxHeartbeats 2000000 in
theorem variant_rd {W : World} {R : Nat} {ts : List Tk} (h : Rdr W R ts) : Calls Tryz.prog 166 #[.pointer (some ⟨R, 0, none⟩)] W fun e W' => Does (variantP) (Leads W Fld.d) W R ts e W' := by
  have hR := h.lt
  have hlen := h.ok.len
  have HR := Lib.hid (h.below ((Below.refl (R + 1) W).alloc (by omega) (.cells #[.string ⟨#[]⟩, .int .i64 0, .string ⟨#[]⟩, .slice none 0 0] 86)) (by omega))
  have HG := Lib.hid (grown_alloc (World.grownBy.refl W (some R)) (.cells #[.string ⟨#[]⟩, .int .i64 0, .string ⟨#[]⟩, .slice none 0 0] 86))
  have HX := Lib.hid (.newAt rfl : Bx 86 (W.alloc (.cells #[.string ⟨#[]⟩, .int .i64 0, .string ⟨#[]⟩, .slice none 0 0] 86)) W.heap.size #[.string ⟨#[]⟩, .int .i64 0, .string ⟨#[]⟩, .slice none 0 0])
  clear h
  go_enter Tryz.func166, Tryz.ntmps166
  go_wp2_with fail
  generalize (W.alloc (.cells #[.string ⟨#[]⟩, .int .i64 0, .string ⟨#[]⟩, .slice none 0 0] 86)) = w1 at *
  refine (name_rd HR.out true).mono ?_
  rintro e w2 ⟨hg, ⟨x, us, v, hp, rfl, rfl, hr, hle⟩ | ⟨er, at_, hp, rfl⟩⟩
  · skip
    have HP1 := Lib.hid hp
    have HLE1 := Lib.hid hle
    clear hp hle
    have HG_ := Lib.hid (World.grownBy.trans HG.out hg)
    have HR_ := Lib.hid hr
    have HX_ := Lib.hid (HX.out.kept hg (by omega))
    clear hg hr HG HR HX
    have HG := HG_
    have HR := HR_
    have HX := HX_
    clear HG_ HR_ HX_
    have hlm : W.heap.size < w2.heap.size := blk_lt HX.out
    have HG_ := Lib.hid (grown_alloc HG.out (.cells #[.string x, .int .i64 0, .string ⟨#[]⟩, .slice none 0 0] 86))
    have HR_ := Lib.hid (HR.out.below (bel_one HR.out.lt (.cells #[.string x, .int .i64 0, .string ⟨#[]⟩, .slice none 0 0] 86)) (by omega))
    have HX_ := Lib.hid (HX.out.alloc (.cells #[.string x, .int .i64 0, .string ⟨#[]⟩, .slice none 0 0] 86))
    have HY_ : Hid (Bx 86 (w2.alloc (.cells #[.string x, .int .i64 0, .string ⟨#[]⟩, .slice none 0 0] 86)) w2.heap.size #[.string x, .int .i64 0, .string ⟨#[]⟩, .slice none 0 0]) := Lib.hid (.newAt rfl)
    clear HG HR HX
    have HG := HG_
    have HR := HR_
    have HX := HX_
    clear HG_ HR_ HX_
    have HY := HY_
    clear HY_
    go_wp2_with fail
    generalize w2.alloc (.cells #[.string x, .int .i64 0, .string ⟨#[]⟩, .slice none 0 0] 86) = w3 at *
    generalize w2.heap.size = m at *
    refine (opt_rd HR.out ⟨#[40]⟩).mono ?_
    rintro e w4 ⟨hg, ⟨hw, rfl, hr⟩ | ⟨hw, rfl, hr⟩⟩
    · skip
      have HW2 := Lib.hid hw
      have HLT2 := Lib.hid (isW_pos hw)
      clear hw
      have HG_ := Lib.hid (World.grownBy.trans HG.out hg)
      have HR_ := Lib.hid hr
      have HX_ := Lib.hid (HX.out.kept hg (by omega))
      have HY_ := Lib.hid (HY.out.kept hg (by omega))
      clear hg hr HG HR HX HY
      have HG := HG_
      have HR := HR_
      have HX := HX_
      have HY := HY_
      clear HG_ HR_ HX_ HY_
      go_wp2_with fail
      refine (ty_rd 61 0 (by omega) (by omega) _ _ _ HR.out).mono ?_
      rintro e w5 ⟨hg, ⟨t, us2, v, hp, rfl, hv, hr, hle⟩ | ⟨er, at_, hp, rfl⟩⟩
      · skip
        obtain ⟨k', n', l', A, c, rfl, rfl, hl⟩ := hv.ty
        have hm3 := blk_lt HY.out
        have HL := Lib.hid (hl.low (m := m + 1) (by omega))
        clear hl hv hm3
        have HP3 := Lib.hid hp
        have HLE3 := Lib.hid hle
        clear hp hle
        have HG_ := Lib.hid (World.grownBy.trans HG.out hg)
        have HR_ := Lib.hid hr
        have HX_ := Lib.hid (HX.out.kept hg (by omega))
        have HY_ := Lib.hid (HY.out.kept hg (by omega))
        clear hg hr HG HR HX HY
        have HG := HG_
        have HR := HR_
        have HX := HX_
        have HY := HY_
        clear HG_ HR_ HX_ HY_
        obtain ⟨lHX, cHX, fHX⟩ := HX.out.see
        obtain ⟨lHY, cHY, fHY⟩ := HY.out.see
        have hne01 : (W.heap.size = m) = False := eq_false (by omega)
        have hne10 : (m = W.heap.size) = False := eq_false (by omega)
        have HPUT := Lib.hid (Put.set (Put.set (Put.set (Put.refl W.heap.size (m + 1) w5) (p := ⟨m, 1, none⟩) (by simp only; omega) (by simp only; omega) (.int .i64 k')) (p := ⟨m, 2, none⟩) (by simp only; omega) (by simp only; omega) (.string n')) (p := ⟨m, 3, none⟩) (by simp only; omega) (by simp only; omega) (.slice A l'.length c))
        have HG_ := Lib.hid (HPUT.out.grown HG.out (Nat.le_refl _))
        have HR_ := Lib.hid (HR.out.put HPUT.out hR)
        have HX_ := Lib.hid (((HX.out.far (p := ⟨m, 1, none⟩) (by simp only; omega) (.int .i64 k')).far (p := ⟨m, 2, none⟩) (by simp only; omega) (.string n')).far (p := ⟨m, 3, none⟩) (by simp only; omega) (.slice A l'.length c))
        have HY_ : Hid (Bx 86 (((w5.setCell ⟨m, 1, none⟩ (.int .i64 k')).setCell ⟨m, 2, none⟩ (.string n')).setCell ⟨m, 3, none⟩ (.slice A l'.length c)) m #[.string x, .int .i64 k', .string n', .slice A l'.length c]) := Lib.hid (by have h := (((HY.out.set 1 (.int .i64 k')).set 2 (.string n')).set 3 (.slice A l'.length c)); simpa using h)
        have HL_ := Lib.hid (HL.out.put HPUT.out (by omega))
        clear HPUT HG HR HX HY HL
        have HG := HG_
        have HR := HR_
        have HX := HX_
        have HY := HY_
        have HL := HL_
        clear HG_ HR_ HX_ HY_ HL_
        go_wp2_with fail
        clear lHX cHX fHX lHY cHY fHY hne01 hne10
        generalize (((w5.setCell ⟨m, 1, none⟩ (.int .i64 k')).setCell ⟨m, 2, none⟩ (.string n')).setCell ⟨m, 3, none⟩ (.slice A l'.length c)) = w6 at *
        refine (must_rd HR.out ⟨#[41]⟩).mono ?_
        rintro e w7 ⟨hg, ⟨⟨⟩, us3, v, hp, rfl, rfl, hr, hle⟩ | ⟨er, at_, hp, rfl⟩⟩
        · skip
          have HP4 := Lib.hid hp
          have HLE4 := Lib.hid hle
          clear hp hle
          have HG_ := Lib.hid (World.grownBy.trans HG.out hg)
          have HR_ := Lib.hid hr
          have HX_ := Lib.hid (HX.out.kept hg (by omega))
          have HY_ := Lib.hid (HY.out.kept hg (by omega))
          have HL_ := Lib.hid (HL.out.kept hg (by omega))
          clear hg hr HG HR HX HY HL
          have HG := HG_
          have HR := HR_
          have HX := HX_
          have HY := HY_
          have HL := HL_
          clear HG_ HR_ HX_ HY_ HL_
          have HPF : Hid ((variantP) ts = .ok (⟨x, .mk k' n' l'⟩, us3)) := Lib.hid (by rw [variantP, Ps.bd_ok HP1.out, optE_t HW2.out, Ps.bd_ok HP3.out, Ps.bd_ok HP4.out]; exact rfl)
          have HPUT : ∀ w', Put W.heap.size (m + 1) w7 w' → Does (variantP) (Leads W Fld.d) W R ts (.returned (.agg #[.string x, .int .i64 k', .string n', .slice A l'.length c])) w' := fun w' hput => ⟨hput.grown HG.out (Nat.le_refl _), .inl ⟨⟨x, .mk k' n' l'⟩, us3, _, HPF.out, rfl, Leads.fld_mk ((HL.out.put hput (Nat.le_refl _)).low (by omega)), HR.out.put hput hR, by have := HLE1.out; have := HLT2.out; have := HLE3.out; have := HLE4.out; first | omega | (simp at *; done) | (simp at *; omega)⟩⟩
          obtain ⟨lHX, cHX, fHX⟩ := HX.out.see
          obtain ⟨lHY, cHY, fHY⟩ := HY.out.see
          have hne01 : (W.heap.size = m) = False := eq_false (by omega)
          have hne10 : (m = W.heap.size) = False := eq_false (by omega)
          go_wp2_with fail
          refine bodyPost_ret (v := .agg #[.string x, .int .i64 k', .string n', .slice A l'.length c]) (by (simp only [results, Tryz.results166]); go_simp) rfl (HPUT _ ?_)
          repeat (first | with_reducible exact Put.refl _ _ _ | (with_reducible refine Put.set ?_ ?_ ?_ _; rotate_left; (simp only; omega); (simp only; omega)))
        · go_wp2_with fail
          exact ⟨rfl, World.grownBy.trans HG.out hg, .inr ⟨er, at_, (by rw [variantP, Ps.bd_ok HP1.out, optE_t HW2.out, Ps.bd_ok HP3.out]; exact Ps.bd_err hp), rfl⟩⟩
      · go_wp2_with fail
        exact ⟨rfl, World.grownBy.trans HG.out hg, .inr ⟨er, at_, (by rw [variantP, Ps.bd_ok HP1.out, optE_t HW2.out]; exact Ps.bd_err hp), rfl⟩⟩
    · skip
      have HW2 := Lib.hid hw
      clear hw
      have HG_ := Lib.hid (World.grownBy.trans HG.out hg)
      have HR_ := Lib.hid hr
      have HX_ := Lib.hid (HX.out.kept hg (by omega))
      have HY_ := Lib.hid (HY.out.kept hg (by omega))
      clear hg hr HG HR HX HY
      have HG := HG_
      have HR := HR_
      have HX := HX_
      have HY := HY_
      clear HG_ HR_ HX_ HY_
      have HPF : Hid ((variantP) ts = .ok (⟨x, .mk 0 noB []⟩, us)) := Lib.hid (by rw [variantP, Ps.bd_ok HP1.out, optE_f HW2.out]; exact rfl)
      have HPUT : ∀ w', Put W.heap.size (m + 1) w4 w' → Does (variantP) (Leads W Fld.d) W R ts (.returned (.agg #[.string x, .int .i64 0, .string ⟨#[]⟩, .slice none 0 0])) w' := fun w' hput => ⟨hput.grown HG.out (Nat.le_refl _), .inl ⟨⟨x, .mk 0 noB []⟩, us, _, HPF.out, rfl, Leads.fld_mk (by simp only [Ty.ds]; exact Rd.nil _ _ _ _), HR.out.put hput hR, by have := HLE1.out; first | omega | (simp at *; done) | (simp at *; omega)⟩⟩
      obtain ⟨lHX, cHX, fHX⟩ := HX.out.see
      obtain ⟨lHY, cHY, fHY⟩ := HY.out.see
      have hne01 : (W.heap.size = m) = False := eq_false (by omega)
      have hne10 : (m = W.heap.size) = False := eq_false (by omega)
      go_wp2_with fail
      refine bodyPost_ret (v := .agg #[.string x, .int .i64 0, .string ⟨#[]⟩, .slice none 0 0]) (by (simp only [results, Tryz.results166]); go_simp) rfl (HPUT _ ?_)
      repeat (first | with_reducible exact Put.refl _ _ _ | (with_reducible refine Put.set ?_ ?_ ?_ _; rotate_left; (simp only; omega); (simp only; omega)))
  · go_wp2_with fail
    exact ⟨rfl, World.grownBy.trans HG.out hg, .inr ⟨er, at_, (by rw [variantP]; exact Ps.bd_err hp), rfl⟩⟩
theorem Leads.plc_mk {W W' : World} {n : ByteArray} {l : List ByteArray} {u : Value} (h : Rd W' (fun j => W.heap.size ≤ j) u (.row 104 1 (l.map stepD))) : Leads W Plc.d W' (.agg #[.string n, u]) ⟨n, l⟩ :=
  ⟨[.string n, u], rfl, ⟨.v _, h, trivial⟩⟩
theorem Leads.plc {W W' : World} {v : Value} {x : Plc} (h : Leads W Plc.d W' v x) : ∃ n l A c, x = ⟨n, l⟩ ∧ v = .agg #[.string n, .slice A l.length c] ∧ Rd W' (fun j => W.heap.size ≤ j) (.slice A l.length c) (.row 104 1 (l.map stepD)) := by
  obtain ⟨cs, rfl, hc⟩ := h
  obtain ⟨n, l⟩ := x
  match cs, hc with
  | [a, u], hc =>
    obtain ⟨h1, h2, _⟩ := hc
    obtain rfl := h1.v_eq
    obtain ⟨A, c, rfl⟩ := h2.slice
    rw [List.length_map] at h2 ⊢
    exact ⟨n, l, A, c, rfl, rfl, h2⟩

set_option maxRecDepth 100000 in
set_option maxHeartbeats 2000000 in
theorem bare_rd {W : World} {R : Nat} {ts : List Tk} (h : Rdr W R ts) : Calls Tryz.prog 216 #[.pointer (some ⟨R, 0, none⟩)] W fun e W' => Does (bareP) (Leads W Plc.d) W R ts e W' := by
  have hR := h.lt
  have hlen := h.ok.len
  have HR := Lib.hid (h.below ((Below.refl (R + 1) W).alloc (by omega) (.cells #[.string ⟨#[]⟩, .slice none 0 0] 30)) (by omega))
  have HG := Lib.hid (grown_alloc (World.grownBy.refl W (some R)) (.cells #[.string ⟨#[]⟩, .slice none 0 0] 30))
  have HX := Lib.hid (.newAt rfl : Bx 30 (W.alloc (.cells #[.string ⟨#[]⟩, .slice none 0 0] 30)) W.heap.size #[.string ⟨#[]⟩, .slice none 0 0])
  clear h
  go_enter Tryz.func216, Tryz.ntmps216
  go_wp2_with fail
  generalize (W.alloc (.cells #[.string ⟨#[]⟩, .slice none 0 0] 30)) = w8 at *
  refine (name_rd HR.out false).mono ?_
  rintro e w9 ⟨hg, ⟨x, us, v, hp, rfl, rfl, hr, hle⟩ | ⟨er, at_, hp, rfl⟩⟩
  · skip
    have HP1 := Lib.hid hp
    have HLE1 := Lib.hid hle
    clear hp hle
    have HG_ := Lib.hid (World.grownBy.trans HG.out hg)
    have HR_ := Lib.hid hr
    have HX_ := Lib.hid (HX.out.kept hg (by omega))
    clear hg hr HG HR HX
    have HG := HG_
    have HR := HR_
    have HX := HX_
    clear HG_ HR_ HX_
    have HPF : Hid ((bareP) ts = .ok (⟨x, []⟩, us)) := Lib.hid (by rw [bareP, Ps.bd_ok HP1.out]; exact rfl)
    have HPUT : ∀ w', Put W.heap.size (W.heap.size + 1) w9 w' → Does (bareP) (Leads W Plc.d) W R ts (.returned (.agg #[.string x, .slice none 0 0])) w' := fun w' hput => ⟨hput.grown HG.out (Nat.le_refl _), .inl ⟨⟨x, []⟩, us, _, HPF.out, rfl, Leads.plc_mk (by exact Rd.nil _ _ _ _), HR.out.put hput hR, by have := HLE1.out; first | omega | (simp at *; done) | (simp at *; omega)⟩⟩
    obtain ⟨lHX, cHX, fHX⟩ := HX.out.see
    go_wp2_with fail
    refine bodyPost_ret (v := .agg #[.string x, .slice none 0 0]) (by (simp only [results, Tryz.results216]); go_simp) rfl (HPUT _ ?_)
    repeat (first | with_reducible exact Put.refl _ _ _ | (with_reducible refine Put.set ?_ ?_ ?_ _; rotate_left; (simp only; omega); (simp only; omega)))
  · go_wp2_with fail
    exact ⟨rfl, World.grownBy.trans HG.out hg, .inr ⟨er, at_, (by rw [bareP]; exact Ps.bd_err hp), rfl⟩⟩
end Go.Proofs.YtjoiflokekebkaaGreatDoor
end
