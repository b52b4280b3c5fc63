/- Walks: the reader's smallest methods. -/
import Derived.Test.YtjoiflokekebkaaDoorPr
import Derived.Test.YtjoiflokekebkaaDoorPq
set_option linter.all false
namespace Go.Proofs.YtjoiflokekebkaaDoor
open Go.RowKit

theorem Rdr.see {W : World} {R : Nat} {ts : List Tk} (h : Rdr W R ts) : ∃ T o c, T < R ∧ R < W.heap.size ∧ ts.length ≤ c ∧ 0 < ts.length ∧ ∀ W', Below (R + 1) W W' →
    W'.cell? ⟨R, 0, none⟩ = some (.slice (some ⟨T, o, none⟩) ts.length c) ∧ W'.frozen? ⟨R, 0, none⟩ = false ∧ W'.cell? ⟨T, o, none⟩ = some (.int .i64 (hd ts).k) ∧ W'.cell? ⟨T, o + 1, none⟩ = some (.string (hd ts).s) ∧
    W'.cell? ⟨T, o + 2, none⟩ = some (.int .i64 (hd ts).n) ∧ W'.cell? ⟨T, o + 3, none⟩ = some (.int .i64 (hd ts).at_) := by
  have hR := h.lt
  obtain ⟨⟨T, o, c, h1, h2, h3, h4⟩, h5⟩ := h
  have hne := h5.ne
  cases ts with
  | nil => exact absurd rfl hne
  | cons t r =>
    refine ⟨T, o, c, h2, hR, h3, by simp, fun W' hb => ?_⟩
    have hB := (hb.block R (by omega)).trans h1
    have hc : ∀ j, W'.cell? ⟨T, j, none⟩ = W.cell? ⟨T, j, none⟩ := fun j => hb.cell (p := ⟨T, j, none⟩) (by show T < R + 1; omega)
    obtain ⟨k0, k1, k2, k3⟩ := h4 0 t rfl
    rw [Nat.zero_mul, Nat.add_zero] at k0 k1 k2 k3
    exact ⟨blk_cell hB 0, blk_frozen hB 0, by rw [hc]; exact k0, by rw [hc]; exact k1, by rw [hc]; exact k2, by rw [hc]; exact k3⟩
theorem bel_one {W : World} {R : Nat} (h : R < W.heap.size) (o : Obj) : Below (R + 1) W (W.alloc o) := (Below.refl (R + 1) W).alloc (by omega) o

theorem next_rd {W : World} {R : Nat} {ts : List Tk} (h : Rdr W R ts) : Calls Tryd.prog 23 #[.pointer (some ⟨R, 0, none⟩)] W fun e W' => e = .returned (.agg #[.int .i64 (hd ts).k, .string (hd ts).s, .int .i64 (hd ts).n, .int .i64 (hd ts).at_]) ∧ Below W.heap.size W W' := by
  obtain ⟨T, o, c, hT, hR, hc, hl, hw⟩ := h.see
  have k0 : ∀ ob, (W.alloc ob).cell? ⟨R, 0, none⟩ = some (.slice (some ⟨T, o, none⟩) ts.length c) := fun ob => (hw _ (bel_one hR ob)).1
  have k2 : ∀ ob, (W.alloc ob).cell? ⟨T, o, none⟩ = some (.int .i64 (hd ts).k) := fun ob => (hw _ (bel_one hR ob)).2.2.1
  have k3 : ∀ ob, (W.alloc ob).cell? ⟨T, o + 1, none⟩ = some (.string (hd ts).s) := fun ob => (hw _ (bel_one hR ob)).2.2.2.1
  have k4 : ∀ ob, (W.alloc ob).cell? ⟨T, o + 2, none⟩ = some (.int .i64 (hd ts).n) := fun ob => (hw _ (bel_one hR ob)).2.2.2.2.1
  have k5 : ∀ ob, (W.alloc ob).cell? ⟨T, o + 3, none⟩ = some (.int .i64 (hd ts).at_) := fun ob => (hw _ (bel_one hR ob)).2.2.2.2.2
  have hp : (0 : Int) < (ts.length : Int) := by omega
  clear hw h hc hl
  go_enter Tryd.func23, Tryd.ntmps23
  go_wp2_with fail
  exact bodyPost_ret (v := .agg #[.int .i64 (hd ts).k, .string (hd ts).s, .int .i64 (hd ts).n, .int .i64 (hd ts).at_]) (by (simp only [results, Tryd.results23]); go_simp) rfl ⟨rfl, (Below.refl _ _).alloc (Nat.le_refl _) _⟩

theorem set_grown (W : World) (g j : Nat) (u : Value) : W.grownBy (W.setCell ⟨g, j, none⟩ u) (some g) :=
  ⟨rfl, rfl, rfl, by simp, fun k _ hk => Below.heap_setCell W ⟨g, j, none⟩ u k (fun e => hk (by simp only at e; rw [e]))⟩
/-- A reader that has taken a token. -/
theorem Rdr.taken {W W' : World} {R T o c : Nat} {ts : List Tk} (h : Rdr W R ts) (hk : (hd ts).k ≠ 0) (hc : W.cell? ⟨R, 0, none⟩ = some (.slice (some ⟨T, o, none⟩) ts.length c))
    (hn : ∀ k, k < R → W'.heap[k]? = W.heap[k]?) (hb : W'.heap[R]? = some (.cells #[.slice (some ⟨T, o + 4, none⟩) (ts.length - 1) (c - 1)] 71 (0, 0))) : Rdr W' R ts.tail := by
  obtain ⟨⟨T', o', c', h1, h2, h3, h4⟩, h5⟩ := h
  rw [blk_cell h1] at hc
  simp at hc
  obtain ⟨⟨rfl, rfl⟩, rfl⟩ := hc
  refine ⟨⟨T', o' + 4, c' - 1, by rw [hb, List.length_tail], h2, by rw [List.length_tail]; omega, fun i t ht => ?_⟩, h5.tail hk⟩
  have hcell : ∀ j, W'.cell? ⟨T', j, none⟩ = W.cell? ⟨T', j, none⟩ := fun j => by simp [World.cell?, hn T' h2]
  rw [List.getElem?_tail] at ht
  have := h4 (i + 1) t ht
  rw [hcell, hcell, hcell, hcell]
  rw [show o' + 4 + i * 4 = o' + (i + 1) * 4 by omega]
  exact this
theorem Toks.two {ts : List Tk} (h : Toks ts) (hk : (hd ts).k ≠ 0) : 2 ≤ ts.length := by
  cases ts with
  | nil => exact absurd rfl h.ne
  | cons t r => have := h.fin 0 t rfl hk; simp at this ⊢; omega
theorem take_rd {W : World} {R : Nat} {ts : List Tk} (h : Rdr W R ts) (hk : (hd ts).k ≠ 0) : Calls Tryd.prog 44 #[.pointer (some ⟨R, 0, none⟩)] W fun e W' => e = .returned (.agg #[.int .i64 (hd ts).k, .string (hd ts).s, .int .i64 (hd ts).n, .int .i64 (hd ts).at_]) ∧ W.grownBy W' (some R) ∧ Rdr W' R ts.tail := by
  obtain ⟨T, o, c, hT, hR, hc, hl, hw⟩ := h.see
  have h2 := h.ok.two hk
  have HR := Lib.hid h
  have k0 : ∀ ob ob', ((W.alloc ob).alloc ob').cell? ⟨R, 0, none⟩ = some (.slice (some ⟨T, o, none⟩) ts.length c) := fun ob ob' => (hw _ ((bel_one hR ob).alloc (by simp; omega) ob')).1
  have kf : ∀ ob ob', ((W.alloc ob).alloc ob').frozen? ⟨R, 0, none⟩ = false := fun ob ob' => (hw _ ((bel_one hR ob).alloc (by simp; omega) ob')).2.1
  have k2 : ∀ ob ob', ((W.alloc ob).alloc ob').cell? ⟨T, o, none⟩ = some (.int .i64 (hd ts).k) := fun ob ob' => (hw _ ((bel_one hR ob).alloc (by simp; omega) ob')).2.2.1
  have k3 : ∀ ob ob', ((W.alloc ob).alloc ob').cell? ⟨T, o + 1, none⟩ = some (.string (hd ts).s) := fun ob ob' => (hw _ ((bel_one hR ob).alloc (by simp; omega) ob')).2.2.2.1
  have k4 : ∀ ob ob', ((W.alloc ob).alloc ob').cell? ⟨T, o + 2, none⟩ = some (.int .i64 (hd ts).n) := fun ob ob' => (hw _ ((bel_one hR ob).alloc (by simp; omega) ob')).2.2.2.2.1
  have k5 : ∀ ob ob', ((W.alloc ob).alloc ob').cell? ⟨T, o + 3, none⟩ = some (.int .i64 (hd ts).at_) := fun ob ob' => (hw _ ((bel_one hR ob).alloc (by simp; omega) ob')).2.2.2.2.2
  have j0 : ∀ ob, (W.alloc ob).cell? ⟨R, 0, none⟩ = some (.slice (some ⟨T, o, none⟩) ts.length c) := fun ob => (hw _ (bel_one hR ob)).1
  have j2 : ∀ ob, (W.alloc ob).cell? ⟨T, o, none⟩ = some (.int .i64 (hd ts).k) := fun ob => (hw _ (bel_one hR ob)).2.2.1
  have j3 : ∀ ob, (W.alloc ob).cell? ⟨T, o + 1, none⟩ = some (.string (hd ts).s) := fun ob => (hw _ (bel_one hR ob)).2.2.2.1
  have j4 : ∀ ob, (W.alloc ob).cell? ⟨T, o + 2, none⟩ = some (.int .i64 (hd ts).n) := fun ob => (hw _ (bel_one hR ob)).2.2.2.2.1
  have j5 : ∀ ob, (W.alloc ob).cell? ⟨T, o + 3, none⟩ = some (.int .i64 (hd ts).at_) := fun ob => (hw _ (bel_one hR ob)).2.2.2.2.2
  have hp : (0 : Int) < (ts.length : Int) := by omega
  have hp1 : (1 : Int) ≤ (ts.length : Int) := by omega
  have hc1 : (ts.length : Int) ≤ (c : Int) := by omega
  have hcn : ¬ c = 1 := by omega
  have hcm : ¬ (c : Int) = 1 := by omega
  clear hw h hl
  go_enter Tryd.func44, Tryd.ntmps44
  go_wp2_with fail
  have hg : W.grownBy (((W.setCell ⟨R, 0, none⟩ (.slice (some ⟨T, o + 4, none⟩) (ts.length - 1) (c - 1))).alloc (.cells #[.int .i64 (hd ts).k, .string (hd ts).s, .int .i64 (hd ts).n, .int .i64 (hd ts).at_] 48)).alloc (.cells #[.int .i64 (hd ts).k, .string (hd ts).s, .int .i64 (hd ts).n, .int .i64 (hd ts).at_] 48)) (some R) :=
    World.grownBy.trans (World.grownBy.trans (set_grown W R 0 _) (World.grownBy_alloc _ _ _)) (World.grownBy_alloc _ _ _)
  refine bodyPost_ret (v := .agg #[.int .i64 (hd ts).k, .string (hd ts).s, .int .i64 (hd ts).n, .int .i64 (hd ts).at_]) (by (simp only [results, Tryd.results44]); go_simp) rfl ⟨rfl, hg, HR.out.taken (T := T) (o := o) (c := c) hk ?_ (fun k hk' => hg.block k (by omega) (by simp; omega)) ?_⟩
  · have := j0 (.cells #[] 0)
    rwa [World.cell?_alloc_past _ _ _ (by exact hR)] at this
  · obtain ⟨⟨T', o', c', h1, _⟩, _⟩ := HR.out
    have h3 := blk_alloc (blk_alloc (blk_set h1 0 (.slice (some ⟨T, o + 4, none⟩) (ts.length - 1) (c - 1))) (.cells #[.int .i64 (hd ts).k, .string (hd ts).s, .int .i64 (hd ts).n, .int .i64 (hd ts).at_] 48)) (.cells #[.int .i64 (hd ts).k, .string (hd ts).s, .int .i64 (hd ts).n, .int .i64 (hd ts).at_] 48)
    simpa using h3
theorem tok_at (a b c d : Value) (w : World) : (Instr.field 48 (.agg #[a, b, c, d]) 3).run Tryd.prog w = .ok d w := by kernel_rfl
theorem tok_text (a b c d : Value) (w : World) : (Instr.field 48 (.agg #[a, b, c, d]) 1).run Tryd.prog w = .ok b w := by kernel_rfl
theorem tok_num (a b c d : Value) (w : World) : (Instr.field 48 (.agg #[a, b, c, d]) 2).run Tryd.prog w = .ok c w := by kernel_rfl
theorem tok_kind (a b c d : Value) (w : World) : (Instr.field 48 (.agg #[a, b, c, d]) 0).run Tryd.prog w = .ok a w := by kernel_rfl
set_option maxRecDepth 100000 in
theorem stop_rd {W : World} {R : Nat} {ts : List Tk} (h : Rdr W R ts) (er : Int) : Calls Tryd.prog 46 #[.pointer (some ⟨R, 0, none⟩), .int .i64 er] W fun e W' =>
    e = .panicked [{ v := .iface 73 (.agg #[.int .i64 er, .int .i64 (hd ts).at_]), recovered := false }] ∧ Below W.heap.size W W' := by
  have H := Lib.hid h
  clear h
  have hf := tok_at
  go_enter Tryd.func46, Tryd.ntmps46
  go_wp2_with fail
  refine (next_rd H.out).mono ?_
  rintro e w1 ⟨rfl, hb⟩
  go_wp2_with fail
  exact ⟨rfl, rfl, hb⟩
theorem index_one (B : Nat) (x s : ByteArray) (W : World) (hc : W.cell? ⟨B, 0, none⟩ = some (.string s)) :
    Calls Tryd.prog 54 #[.slice (some ⟨B, 0, none⟩) 1 1, .string x] W fun e W' => e = .returned (.int .i64 (if (x.toList == s.toList) = true then 0 else -1)) ∧ W' = W := by
  obtain ⟨b, hb⟩ : ∃ b, (x.toList == s.toList) = b := ⟨_, rfl⟩
  rw [hb]
  go_enter Tryd.func54, Tryd.ntmps54
  go_wp2_with fail
  go_loopw [5, 8] (fun _ i wr => (i = .int .i64 0 ∨ (i = .int .i64 1 ∧ b = false)) ∧ wr = W) (fun _ i _ => 2 - (intOf i).toNat)
  case atStart => exact ⟨.inl rfl, rfl⟩
  case round =>
    obtain ⟨hi, rfl⟩ := hrel
    rcases hi with rfl | ⟨rfl, rfl⟩
    · cases b
      · go_wp2_with fail
        go_roundw
        case rel => exact ⟨.inr ⟨rfl, trivial⟩, trivial⟩
        case measure => simp [intOf]
      · go_wp2_with fail
        go_ret
        exact ⟨rfl, rfl⟩
    · clear hb
      go_wp2_with fail
      go_ret
      exact ⟨rfl, rfl⟩
theorem contains_one (B : Nat) (x s : ByteArray) (W : World) (hc : W.cell? ⟨B, 0, none⟩ = some (.string s)) :
    Calls Tryd.prog 45 #[.slice (some ⟨B, 0, none⟩) 1 1, .string x] W fun e W' => e = .returned (.bool (x.toList == s.toList)) ∧ W' = W := by
  obtain ⟨b, hb⟩ : ∃ b, (x.toList == s.toList) = b := ⟨_, rfl⟩
  have hi := fun w hc => index_one B x s w hc
  rw [hb] at hi ⊢
  clear hb
  go_enter Tryd.func45, Tryd.ntmps45
  go_wp2_with fail
  refine (hi _ hc).mono ?_
  rintro e w1 ⟨rfl, rfl⟩
  cases b <;>
  · go_wp2_with fail
    go_ret
    exact ⟨rfl, rfl⟩
theorem is_rd {W : World} {R B : Nat} {ts : List Tk} (h : Rdr W R ts) (s : ByteArray) (hc : W.cell? ⟨B, 0, none⟩ = some (.string s)) (hB : B < W.heap.size) :
    Calls Tryd.prog 30 #[.pointer (some ⟨R, 0, none⟩), .slice (some ⟨B, 0, none⟩) 1 1] W fun e W' => e = .returned (.bool (isW s ts)) ∧ Below W.heap.size W W' := by
  have H := Lib.hid h
  clear h
  go_enter Tryd.func30, Tryd.ntmps30
  go_wp2_with fail
  refine (next_rd H.out).mono ?_
  rintro e w1 ⟨rfl, hb⟩
  have hB1 : B < w1.heap.size := Nat.lt_of_lt_of_le hB hb.size
  have hcc : ∀ ob, (w1.alloc ob).cell? ⟨B, 0, none⟩ = some (.string s) := fun ob => by
    rw [World.cell?_alloc_past _ _ _ (by exact hB1)]
    exact (hb.cell (p := ⟨B, 0, none⟩) (by exact hB)).trans hc
  have hw : isW s ts = ((decide ((hd ts).k = 1) || decide ((hd ts).k = 3)) && ((hd ts).s.toList == s.toList)) := rfl
  have HW := Lib.hid hw
  have HB := Lib.hid hb
  have HC := Lib.hid (fun ob => contains_one B (hd ts).s s (w1.alloc ob) (hcc ob))
  clear hw hb hc hB hB1 hcc H
  generalize (hd ts).k = k at *
  generalize (hd ts).s = x at *
  by_cases h1 : k = 1
  · subst h1
    have HW2 : Hid (isW s ts = (x.toList == s.toList)) := Lib.hid (by rw [HW.out]; simp)
    clear HW
    go_wp2_with fail
    refine (HC.out _).mono ?_
    rintro e w2 ⟨rfl, rfl⟩
    go_wp2_with fail
    go_ret
    exact ⟨by rw [HW2.out]; rfl, HB.out.alloc HB.out.size _⟩
  · have e1 : (k == 1) = false := by simpa using h1
    by_cases h3 : k = 3
    · subst h3
      have HW2 : Hid (isW s ts = (x.toList == s.toList)) := Lib.hid (by rw [HW.out]; simp)
      clear HW h1
      go_wp2_with fail
      refine (HC.out _).mono ?_
      rintro e w2 ⟨rfl, rfl⟩
      go_wp2_with fail
      go_ret
      exact ⟨by rw [HW2.out]; rfl, HB.out.alloc HB.out.size _⟩
    · have e3 : (k == 3) = false := by simpa using h3
      have HW2 : Hid (isW s ts = false) := Lib.hid (by rw [HW.out]; simp [h1, h3])
      clear HW h1 h3
      go_wp2_with fail
      go_ret
      exact ⟨by rw [HW2.out]; rfl, HB.out.alloc HB.out.size _⟩
end Go.Proofs.YtjoiflokekebkaaDoor
