/- Walks: a word that may stand there, one that must, a name. -/
import Derived.Test.YtjoiflokekebkaaDoorR1
set_option linter.all false
namespace Go.Proofs.YtjoiflokekebkaaDoor
open Go.RowKit

theorem isW_k {s : ByteArray} {ts : List Tk} (h : isW s ts = true) : (hd ts).k ≠ 0 := by
  intro e
  simp [isW, e] at h
theorem named_k {g : Bool} {ts : List Tk} (h : namedB g (hd ts) = true) : (hd ts).k ≠ 0 := by
  intro e
  simp [namedB, e] at h
theorem grown_bel {w w' : World} {B R : Nat} (h : Below B w w') (hB : w.heap.size ≤ B) : w.grownBy w' (some R) :=
  ⟨h.os, h.tape, h.output, h.size, fun k hk _ => h.block k (by omega)⟩
theorem grown_then {w w1 w2 : World} {B R : Nat} (h : w.grownBy w1 (some R)) (k : Below B w1 w2) (hB : w.heap.size ≤ B) : w.grownBy w2 (some R) :=
  ⟨k.os.trans h.os, k.tape.trans h.tape, k.output.trans h.output, Nat.le_trans h.size k.size, fun j hj hr => (k.block j (by omega)).trans (h.block j hj hr)⟩

/-- A word that is taken if it is there. -/
def Opt (s : ByteArray) (W : World) (R : Nat) (ts : List Tk) (e : Ending) (W' : World) : Prop :=
  W.grownBy W' (some R) ∧ ((isW s ts = true ∧ e = .returned (.bool true) ∧ Rdr W' R ts.tail) ∨ (isW s ts = false ∧ e = .returned (.bool false) ∧ Rdr W' R ts))
theorem opt_rd {W : World} {R : Nat} {ts : List Tk} (h : Rdr W R ts) (s : ByteArray) :
    Calls Tryd.prog 29 #[.pointer (some ⟨R, 0, none⟩), .string s] W fun e W' => Opt s W R ts e W' := by
  have H := Lib.hid h
  have hR := h.lt
  have hnew : (W.alloc (.cells #[.string s] 9)).cell? ⟨W.heap.size, 0, none⟩ = some (.string s) := blk_cell (heap_alloc_new W _) 0
  have HN := Lib.hid hnew
  have HB := Lib.hid (bel_one hR (.cells #[.string s] 9))
  have HA := Lib.hid ((Below.refl W.heap.size W).alloc (Nat.le_refl _) (.cells #[.string s] 9))
  clear h hnew
  go_enter Tryd.func29, Tryd.ntmps29
  go_wp2_with fail
  refine (is_rd (H.out.below HB.out (by omega)) s HN.out (by simp)).mono ?_
  rintro e w1 ⟨rfl, hb⟩
  have HB1 := Lib.hid (HB.out.trans (hb.mono (by simp; omega)))
  have HA1 := Lib.hid (HA.out.trans (hb.mono (by simp)))
  clear hb
  cases hw : isW s ts with
  | true =>
    have HT := Lib.hid (take_rd (H.out.below HB1.out (by omega)) (isW_k hw))
    have HW := Lib.hid hw
    clear hw
    go_wp2_with fail
    refine HT.out.mono ?_
    rintro e w2 ⟨rfl, hg, hr⟩
    go_wp2_with fail
    go_ret
    exact ⟨World.grownBy.trans (grown_bel HA1.out (Nat.le_refl _)) hg, .inl ⟨HW.out, rfl, hr⟩⟩
  | false =>
    have HW := Lib.hid hw
    clear hw
    go_wp2_with fail
    go_ret
    exact ⟨grown_bel HA1.out (Nat.le_refl _), .inr ⟨HW.out, rfl, H.out.below HB1.out (by omega)⟩⟩
set_option maxRecDepth 100000 in
theorem must_rd {W : World} {R : Nat} {ts : List Tk} (h : Rdr W R ts) (s : ByteArray) :
    Calls Tryd.prog 31 #[.pointer (some ⟨R, 0, none⟩), .string s] W fun e W' => Does (must s) (fun _ v _ => v = .tuple #[]) W R ts e W' := by
  have H := Lib.hid h
  clear h
  go_enter Tryd.func31, Tryd.ntmps31
  go_wp2_with fail
  refine (opt_rd H.out s).mono ?_
  rintro e w1 ⟨hg, ⟨hw, rfl, hr⟩ | ⟨hw, rfl, hr⟩⟩
  · have HG := Lib.hid hg
    have HR := Lib.hid hr
    have HM : Hid (must s ts = .ok ((), ts.tail)) := Lib.hid (by unfold must; rw [if_pos hw])
    clear hg hr hw
    go_wp2_with fail
    go_end0
    exact ⟨HG.out, .inl ⟨(), ts.tail, _, HM.out, rfl, rfl, HR.out, by simp⟩⟩
  · have HG := Lib.hid hg
    have HR := Lib.hid hr
    have HM : Hid (must s ts = .error (60, (hd ts).at_)) := Lib.hid (by unfold must; rw [if_neg (by rw [hw]; decide)])
    clear hg hr hw
    go_wp2_with fail
    refine (stop_rd HR.out 60).mono ?_
    rintro e w2 ⟨rfl, hb⟩
    go_wp2_with fail
    exact ⟨rfl, grown_then HG.out hb HG.out.size, .inr ⟨60, _, HM.out, rfl⟩⟩
theorem named_rd {W : World} {R : Nat} {ts : List Tk} (h : Rdr W R ts) (g : Bool) :
    Calls Tryd.prog 47 #[.pointer (some ⟨R, 0, none⟩), .bool g] W fun e W' => e = .returned (.bool (namedB g (hd ts))) ∧ Below W.heap.size W W' := by
  have H := Lib.hid h
  have htx : (hd ts).s.size ≤ 1000000 := by
    have := h.ok.txt
    cases ts with
    | nil => exact absurd rfl h.ok.ne
    | cons t r => exact this t (by simp)
  clear h
  go_enter Tryd.func47, Tryd.ntmps47
  go_wp2_with fail
  refine (next_rd H.out).mono ?_
  rintro e w1 ⟨rfl, hb⟩
  have hw : namedB g (hd ts) = (decide ((hd ts).k = 1) && !resB (hd ts).s && (upperB (hd ts).s.data.toList == g)) := rfl
  have HW := Lib.hid hw
  have HB := Lib.hid hb
  have HRS := Lib.hid (fun w => reserved_any (hd ts).s w)
  have HUP := Lib.hid (fun w => upper_any (hd ts).s (by omega) w)
  clear hw hb H htx
  generalize (hd ts).k = k at *
  generalize (hd ts).s = x at *
  by_cases h1 : k = 1
  · subst h1
    go_wp2_with fail
    refine (HRS.out _).mono ?_
    rintro e w2 ⟨rfl, rfl⟩
    cases hr : resB x with
    | true =>
      have HW2 : Hid (namedB g (hd ts) = false) := Lib.hid (by rw [HW.out, hr]; simp)
      clear HW hr
      go_wp2_with fail
      go_ret
      exact ⟨by rw [HW2.out]; rfl, HB.out.alloc HB.out.size _⟩
    | false =>
      have HW2 : Hid (namedB g (hd ts) = (upperB x.data.toList == g)) := Lib.hid (by rw [HW.out, hr]; simp)
      clear HW hr
      go_wp2_with fail
      refine (HUP.out _).mono ?_
      rintro e w3 ⟨rfl, rfl⟩
      cases hu : upperB x.data.toList <;> cases g <;>
      · have HW3 := HW2
        rw [hu] at HW3
        clear HW2 hu
        go_wp2_with fail
        go_ret
        exact ⟨by rw [HW3.out]; rfl, HB.out.alloc HB.out.size _⟩
  · have e1 : (k == 1) = false := by simpa using h1
    have HW2 : Hid (namedB g (hd ts) = false) := Lib.hid (by rw [HW.out]; simp [h1])
    clear HW h1
    go_wp2_with fail
    go_ret
    exact ⟨by rw [HW2.out]; rfl, HB.out.alloc HB.out.size _⟩
set_option maxRecDepth 100000 in
theorem name_rd {W : World} {R : Nat} {ts : List Tk} (h : Rdr W R ts) (g : Bool) :
    Calls Tryd.prog 32 #[.pointer (some ⟨R, 0, none⟩), .bool g] W fun e W' => Does (name g) (fun _ v x => v = .string x) W R ts e W' := by
  have H := Lib.hid h
  have hR := h.lt
  have hf := tok_text
  clear h
  go_enter Tryd.func32, Tryd.ntmps32
  go_wp2_with fail
  refine (named_rd H.out g).mono ?_
  rintro e w1 ⟨rfl, hb⟩
  have HR1 := Lib.hid (H.out.below hb hR)
  have HB := Lib.hid hb
  clear hb
  cases hn : namedB g (hd ts) with
  | true =>
    have HM : Hid (name g ts = .ok ((hd ts).s, ts.tail)) := Lib.hid (by unfold name; rw [if_pos hn])
    have HT := Lib.hid (take_rd HR1.out (named_k hn))
    clear hn
    go_wp2_with fail
    refine HT.out.mono ?_
    rintro e w2 ⟨rfl, hg, hr⟩
    go_wp2_with fail
    go_ret
    exact ⟨World.grownBy.trans (grown_bel HB.out (Nat.le_refl _)) hg, .inl ⟨_, ts.tail, _, HM.out, rfl, rfl, hr, by simp⟩⟩
  | false =>
    have HM : Hid (name g ts = .error (60, (hd ts).at_)) := Lib.hid (by unfold name; rw [if_neg (by rw [hn]; decide)])
    clear hn
    go_wp2_with fail
    refine (stop_rd HR1.out 60).mono ?_
    rintro e w2 ⟨rfl, hb⟩
    go_wp2_with fail
    exact ⟨rfl, grown_then (grown_bel HB.out (Nat.le_refl _)) hb HB.out.size, .inr ⟨60, _, HM.out, rfl⟩⟩
end Go.Proofs.YtjoiflokekebkaaDoor
