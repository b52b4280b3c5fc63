/- Walks: the program's Lex. -/
import Derived.Test.YtjoiflokekebkaaDoorL3
set_option linter.all false
namespace Go.Proofs.YtjoiflokekebkaaDoor
open Go.RowKit

def tcells (l : List Tk) : List Value := l.flatMap fun x => [.int .i64 x.k, .string x.s, .int .i64 x.n, .int .i64 x.at_]
theorem tcells_length (l : List Tk) : (tcells l).length = l.length * 4 := by
  induction l with
  | nil => rfl
  | cons x l ih => simp [tcells] at ih ⊢; omega
theorem tcells_append (a b : List Tk) : tcells (a ++ b) = tcells a ++ tcells b := by simp [tcells]
theorem tcells_at (l : List Tk) (i : Nat) (x : Tk) (h : l[i]? = some x) :
    (tcells l)[i * 4]? = some (.int .i64 x.k) ∧ (tcells l)[i * 4 + 1]? = some (.string x.s) ∧ (tcells l)[i * 4 + 2]? = some (.int .i64 x.n) ∧ (tcells l)[i * 4 + 3]? = some (.int .i64 x.at_) := by
  induction l generalizing i with
  | nil => simp at h
  | cons y l ih =>
    cases i with
    | zero => simp at h; subst h; simp [tcells]
    | succ i =>
      have := ih i (by simpa using h)
      have e : (i + 1) * 4 = i * 4 + 4 := by omega
      simpa [tcells, e] using this

theorem Tryd.infoTok : (Tryd.prog.info? 48).map (fun i => (i.zero, i.size, i.bytes)) = some (some (.agg #[.int .i64 0, .string ⟨#[]⟩, .int .i64 0, .int .i64 0]), 4, 40) := by kernel_rfl
theorem info_parts {t : TypeId} {z : Value} {s b : Nat} (h : (Tryd.prog.info? t).map (fun i => (i.zero, i.size, i.bytes)) = some (some z, s, b)) : ∃ i, Tryd.prog.info? t = some i ∧ i.zero = some z ∧ i.size = s ∧ i.bytes = b := by
  cases hi : Tryd.prog.info? t with
  | none => rw [hi] at h; cases h
  | some i =>
    rw [hi] at h
    simp at h
    exact ⟨i, rfl, h.1, h.2.1, h.2.2⟩

theorem next_noskip (l : List UInt8) (n : Nat) : nextP l ≠ .skip n := by
  unfold nextP
  split
  · simp
  · split
    · split <;> simp
    · split
      · split <;> simp
      · split <;> simp

theorem drop_ext (s : ByteArray) (a : Nat) : (s.extract a s.size).data.toList = s.data.toList.drop a := by
  have hsz : s.data.toList.length = s.size := Array.length_toList
  simp
  rw [List.take_of_length_le (by rw [List.length_drop]; omega)]
theorem bytes_eq {a b : ByteArray} (h : a.data.toList = b.data.toList) : a = b := by
  cases a; cases b
  exact congrArg ByteArray.mk (Array.toList_inj.1 h)
theorem ext_ext (s : ByteArray) (a n : Nat) (h : a + n ≤ s.size) : (s.extract a s.size).extract 0 n = s.extract a (a + n) := by
  apply bytes_eq
  simp [List.take_take]
  omega

/-- What a round of Lex keeps. -/
structure Lx (W wr : World) (s : ByteArray) (a : Nat) (ts : List Tk) (lv : Value) : Prop where
  row : wr.ownsRow W.heap.size 48 4 lv ts.length (tcells ts)
  all : lexFrom s 0 = (lexFrom s a).map (fun l => ts ++ l)
  few : ts.length ≤ a
  old : Below W.heap.size W wr

section
variable {W wr w' : World} {s : ByteArray} {a : Nat} {ts : List Tk} {lv : Value}
theorem Lx.below (h : Lx W wr s a ts lv) (hb : Below wr.heap.size wr w') : Lx W w' s a ts lv := ⟨row_below h.row hb, h.all, h.few, h.old.trans (hb.mono h.old.size)⟩
theorem Lx.skip (h : Lx W wr s a ts lv) {n : Nat} (ha : a < s.size) (hp : piece (s.data.toList.drop a) = .skip n) : Lx W wr s (a + n) ts lv :=
  ⟨h.row, by rw [h.all, lex_skip ha hp], by have := h.few; omega, h.old⟩
theorem Lx.push (h : Lx W wr s a ts lv) {n : Nat} {k v : Int} (ha : a < s.size) (hp : piece (s.data.toList.drop a) = .tok k n v) {w1 : World} {nv : Value}
    (own : w1.ownsRow W.heap.size 48 4 nv (ts.length + 1) (tcells ts ++ [.int .i64 k, .string (s.extract a (a + n)), .int .i64 v, .int .i64 a])) (grow : wr.grownBy w1 lv.ownBlock) : Lx W w1 s (a + n) (ts ++ [⟨k, s.extract a (a + n), v, a⟩]) nv := by
  have hn := piece_tok hp
  refine ⟨?_, ?_, ?_, h.old.grown grow (Nat.le_trans (Nat.le_refl _) h.old.size) (fun k hk => (row_lt h.row k hk).1)⟩
  · rw [tcells_append, List.length_append]
    exact own
  · rw [h.all, lex_tok ha hp]
    cases lexFrom s (a + n) <;> simp [Except.map]
  · have := h.few
    simp
    omega
end

theorem next_bad {l : List UInt8} {e : Int} (h : nextP l = .bad e) (h0 : l ≠ []) : 40 ≤ e ∧ e ≤ 42 := by
  unfold nextP at h
  split at h
  · exact absurd rfl h0
  · split at h
    · split at h
      · injection h with h; omega
      · cases h
    · split at h
      · split at h
        · injection h with h; omega
        · cases h
      · split at h
        · injection h with h; omega
        · cases h

theorem bx_grown {t : TypeId} {w w' : World} {row : Option Nat} {x : Nat} {cs : Array Value} (hg : w.grownBy w' row) (h : Bx t w x cs) (hne : some x ≠ row) : Bx t w' x cs := (hg.block x (blk_lt h) hne).trans h

/-- What Lex hands back. -/
def LexEnd (W W' : World) (s : ByteArray) (e : Ending) : Prop :=
  (∃ er at_, lexB s = .error (er, at_) ∧ e = .returned (.tuple #[.slice none 0 0, .int .i64 er, .int .i64 at_])) ∨
  (∃ l v, lexB s = .ok l ∧ W'.ownsRow W.heap.size 48 4 v l.length (tcells l) ∧ l.length ≤ s.size + 1 ∧ e = .returned (.tuple #[v, .int .i64 0, .int .i64 0]))

set_option maxHeartbeats 2000000 in
theorem lex_any (s : ByteArray) (hs : s.size ≤ 9000000000000000000) (W : World) (hv : HasErr W) : Calls Tryd.prog 6 #[.string s] W fun e W' => LexEnd W W' s e ∧ Below W.heap.size W W' := by
  by_cases h6 : 65536 < s.size
  · have hr : lexB s = .error (43, 0) := by rw [lexB, if_pos h6]
    have HRr := Lib.hid hr
    clear hr
    go_enter Tryd.func6, Tryd.ntmps6
    go_wp2
    exact bodyPost_ret (v := .tuple #[.slice none 0 0, .int .i64 43, .int .i64 0]) (by (simp only [results, Tryd.results6]); go_simp) rfl ⟨.inl ⟨43, 0, HRr.out, rfl⟩, Below.refl _ _⟩
  have hB : lexB s = lexFrom s 0 := by rw [lexB, if_neg h6]
  have HB := Lib.hid hB
  have HV := Lib.hid hv
  have HI := Lib.hid (info_parts Tryd.infoTok)
  have X0 : Hid (Lx W W s 0 [] (.slice none 0 0)) := Lib.hid ⟨World.ownsRow_nil _ _ _ _, by cases lexFrom s 0 <;> simp [Except.map], Nat.zero_le _, Below.refl _ _⟩
  clear hB hv
  go_enter Tryd.func6, Tryd.ntmps6
  go_wp2_with fail
  go_loopw [5, 6] (fun lv i wr => ∃ (a : Nat) (ts : List Tk), a ≤ s.size ∧ i = .int .i64 a ∧ Hid (Lx W wr s a ts lv)) (fun _ i _ => s.size - (intOf i).toNat)
  case atStart => exact ⟨0, [], Nat.zero_le _, rfl, X0⟩
  case round =>
    obtain ⟨a, ts, ha, rfl, x⟩ := hrel
    clear X0
    obtain ⟨lA, lc, rfl⟩ := row_slice x.out.row
    have hti : (0 : Int) ≤ (a : Int) := by omega
    by_cases hlt : a < s.size
    · have htl : (a : Int) < (s.size : Int) := by omega
      have hul : (s.extract a s.size).size = s.size - a := by simp
      have hdl := drop_ext s a
      have C1 := Lib.hid (passed_any (s.extract a s.size) (by omega))
      go_wp2_with fail
      refine (C1.out _).mono ?_
      rintro e w2 ⟨rfl, rfl⟩
      clear C1
      by_cases hn : 0 < passedN (s.extract a s.size).data.toList
      · have hp : piece (s.data.toList.drop a) = .skip (passedN (s.extract a s.size).data.toList) := by rw [← hdl, piece, if_pos hn]
        have hle := (piece_skip hp).2
        have X2 := Lib.hid (x.out.skip hlt hp)
        have hsz : s.data.toList.length = s.size := Array.length_toList
        rw [List.length_drop, hsz] at hle
        generalize passedN (s.extract a s.size).data.toList = n at *
        clear hsz hdl hul hp
        have hn3 : (0 : Int) < (n : Int) := by omega
        go_wp2
        go_roundw
        case rel => exact ⟨a + n, ts, by omega, by go_num, X2⟩
        case measure => simp [intOf]; omega
      · have hp : piece (s.data.toList.drop a) = nextP (s.extract a s.size).data.toList := by rw [← hdl, piece, if_neg hn]
        have C2 := Lib.hid (next_any (s.extract a s.size) (by omega) (by omega) w2 (HV.out.below x.out.old))
        have hz : passedN (s.extract a s.size).data.toList = 0 := by omega
        rw [hz]
        go_wp2_with fail
        refine C2.out.mono ?_
        rintro e w3 ⟨rfl, b3⟩
        have X3 := Lib.hid (x.out.below b3)
        rw [nextV]
        cases hq : nextP (s.extract a s.size).data.toList with
        | skip n => exact absurd hq (next_noskip _ _)
        | bad er =>
          rw [hq] at hp
          have HRr : Hid (lexB s = .error (er, a)) := Lib.hid (by rw [HB.out, x.out.all, lex_bad hlt hp]; rfl)
          simp only [pcV]
          have her := next_bad hq (by rw [hdl]; intro q; have := congrArg List.length q; simp at this; have e2 : s.data.size = s.size := rfl; omega)
          have hne : (er == 0) = false := by simp; omega
          clear hq hp hz hdl hul hn C2 x b3
          go_wp2
          exact bodyPost_ret (v := .tuple #[.slice none 0 0, .int .i64 er, .int .i64 a]) (by (simp only [results, Tryd.results6]); go_simp) rfl ⟨.inl ⟨er, a, HRr.out, rfl⟩, by repeat (first | exact X3.out.old | apply w1_alloc | apply w1_drewN)⟩
        | tok k n v =>
          rw [hq] at hp
          have hle := piece_tok hp
          have hsz : s.data.toList.length = s.size := Array.length_toList
          rw [List.length_drop, hsz] at hle
          simp only [pcV]
          rw [ext_ext s a n (by omega)]
          have X4a := fun (w1 : World) (nv : Value) (w0 : World) (hb : Below w3.heap.size w3 w0) own grow => Lx.push (X3.out.below hb) hlt hp (w1 := w1) (nv := nv) own grow
          have X4 := Lib.hid X4a
          clear X4a
          have hts : (s.extract a (a + n)).size = n := by simp; omega
          have few := X3.out.few
          have hold := X3.out.old.size
          clear hq hp hz hdl hul hn C2 x b3 hsz
          generalize s.extract a (a + n) = txt at *
          obtain ⟨i0, hi0, hz0, hz1, hz2⟩ := HI.out
          go_wp2_with (first
            | (at_builtin; refine wpList_append_own_at _ rfl (.tmp 39) (.tmp 41) 23 rfl W.heap.size 48 i0 _ 4 40 Tryd.underlying23 hi0 hz0 hz1 hz2 rfl (by decide) _ ts.length (tcells ts) rfl ?_ _ 1 1 [.int .i64 k, .string txt, .int .i64 v, .int .i64 a] rfl rfl ?_ ?_ ?_ ?_ ?_ ?_
               (exact row_below X3.out.row (by repeat (first | exact Below.refl _ _ | apply w1_alloc | apply w1_drewN)))
               (exact cell_row (by simp) _ _)
               (intro u hu; simp at hu; rcases hu with rfl | rfl | rfl | rfl <;> rfl)
               (simp only [maxLen]; omega)
               omega
               (simp <;> omega)
               (intro v4 w4 own4 grow4 nil4 at4
                clear nil4 at4
                have X5 := Lib.hid (X4.out w4 v4 _ (by repeat (first | exact Below.refl _ _ | apply w1_alloc | apply w1_drewN)) own4 grow4)
                have hb8 : Bx 48 w4 w3.heap.size #[.int .i64 k, .string txt, .int .i64 v, .int .i64 a] := bx_grown grow4 (by repeat (first | exact Bx.newAt rfl | apply Bx.alloc | apply Bx.drewN)) (fun e => by have := (row_lt X3.out.row _ e.symm).2.choose_spec; have := blk_lt this; omega)
                obtain ⟨l8, h8, f8⟩ := hb8.see
                clear own4 grow4 hb8)))
          go_roundw
          case rel => exact ⟨a + n, ts ++ [⟨k, txt, v, a⟩], by omega, by go_num, X5⟩
          case measure => simp [intOf]; omega
    · obtain rfl : a = s.size := by omega
      have few := x.out.few
      have hold := x.out.old.size
      obtain ⟨i0, hi0, hz0, hz1, hz2⟩ := HI.out
      have HRr : Hid (lexB s = .ok (ts ++ [⟨0, ⟨#[]⟩, 0, s.size⟩])) := Lib.hid (by rw [HB.out, x.out.all, lex_end hlt]; rfl)
      go_wp2_with (first
        | (at_builtin; refine wpList_append_own_at _ rfl (.tmp 48) (.tmp 52) 23 rfl W.heap.size 48 i0 _ 4 40 Tryd.underlying23 hi0 hz0 hz1 hz2 rfl (by decide) _ ts.length (tcells ts) rfl ?_ _ 1 1 [.int .i64 0, .string ⟨#[]⟩, .int .i64 0, .int .i64 s.size] rfl rfl ?_ ?_ ?_ ?_ ?_ ?_
           (exact row_below x.out.row (by repeat (first | exact Below.refl _ _ | apply w1_alloc | apply w1_drewN)))
           (exact cell_row (by simp) _ _)
           (intro u hu; simp at hu; rcases hu with rfl | rfl | rfl | rfl <;> rfl)
           (simp only [maxLen]; omega)
           omega
           (simp <;> omega)
           (intro v4 w4 own4 grow4 nil4 at4
            clear nil4 at4
            have HO := Lib.hid own4
            have HG := Lib.hid grow4
            clear own4 grow4)))
      refine bodyPost_ret (v := .tuple #[v4, .int .i64 0, .int .i64 0]) (by (simp only [results, Tryd.results6]); go_simp) rfl ?_
      refine ⟨.inr ⟨_, v4, HRr.out, ?_, by simp; omega, rfl⟩, ?_⟩
      · rw [tcells_append, List.length_append]
        exact HO.out
      · exact (Below.grown (show Below W.heap.size W _ by repeat (first | exact x.out.old | apply w1_alloc | apply w1_drewN)) HG.out (by simp <;> omega) (fun k hk => (row_lt x.out.row k hk).1))
end Go.Proofs.YtjoiflokekebkaaDoor
