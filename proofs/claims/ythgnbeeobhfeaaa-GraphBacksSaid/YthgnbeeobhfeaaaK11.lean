/- Texts of this claim in one file: H28, H30a. -/
import Derived.Test.YthgnbeeobhfeaaaK7
import Derived.Test.YthgnbeeobhfeaaaK10
set_option linter.all false
section
/- Walks: the blocks that a block goes to (the document's). -/
namespace Go.Proofs.Ythgnbeeobhfeaaa.T
open Go.RowKit Go.Shelf Go.Proofs.YthgnbeeobhfeaaaW.PrintWords Go.Proofs.YthgnbeeobhfeaaaW.PrintLast

/-- Numbers of the call's own. -/
def OI (W : World) (B : Nat) (v : Value) (xs : List Int) : Prop := W.ownsRow B 3 1 v xs.length (encs (Value.int .i64) xs)
theorem OI.at_ {W : World} {B : Nat} {v : Value} {xs : List Int} (h : OI W B v xs) {j : Nat} {b : Int} (hj : xs[j]? = some b) : ∃ g c, v = .slice (some ⟨g, 0, none⟩) xs.length c ∧ W.cell? ⟨g, j, none⟩ = some (.int .i64 b) := by
  have hlt := (List.getElem?_eq_some_iff.1 hj).1
  obtain ⟨g, c, rfl, _, _⟩ := World.ownsRow.form h (by omega)
  have := World.ownsRow.cells h (g := g) rfl j (.int .i64 b) (by simp [encs, hj])
  rw [add_plain] at this
  exact ⟨g, c, rfl, this⟩
theorem OI.slice {W : World} {B : Nat} {v : Value} {xs : List Int} (h : OI W B v xs) : ∃ A c, v = .slice A xs.length c := own_slice h
theorem OI.below {W W' : World} {B : Nat} {v : Value} {xs : List Int} (h : OI W B v xs) (hb : Below W.heap.size W W') : OI W' B v xs := pw_own_below h hb

set_option maxRecDepth 100000 in
set_option maxHeartbeats 8000000 in
theorem rto_any (s : ByteArray) (p : Int) (A2 : Option Addr) (n2 c2 : Nat) (A3 : Option Addr) (c3 : Nat) (l03 : List S58) (i : Nat) (w : World) (hC : Kd.C k58 w A3 l03.length l03) (hi : i < l03.length) (hf : fewB l03 = true) :
    Calls Try.prog 23 #[bodyV s p A2 n2 c2 A3 l03.length c3, .int .i64 i] w fun e w' => ∃ v, e = .returned v ∧ OI w' w.heap.size v (succI (bksOf l03) i) ∧ Below w.heap.size w w' := by
  have hl3 : l03.length ≤ 9223372036854775807 := hC.2.1
  have hsuc : succI (bksOf l03) i = okTo l03.length (rd_T58 l03 i).f1.f5 := by
    rw [succI, rd_T58_get hi, bksOf_length]; rfl
  rw [hsuc]
  clear hsuc
  have hto : (rd_T58 l03 i).f1.f5.length ≤ 30 := by
    have he : rd_T58 l03 i ∈ l03 := by simp [rd_T58, List.getElem?_eq_getElem hi, List.getD_eq_getElem?_getD]
    exact ((fewB_at hf).2 _ he).2
  clear hf
  obtain ⟨ad, A0, c0, A16, c16, hA, _, hc16, hr⟩ := bk_at hC i hi
  subst hA
  generalize htos : (rd_T58 l03 i).f1.f5 = tos at *
  have HR := Lib.hid hr
  clear hC htos hr
  go_enter Try.func23, Try.ntmps23
  go_wp2_with fail
  have hbx : BoxIs (w.alloc (.cells (bodyC s p A2 n2 c2 (some ad) l03.length c3) 25)) w.heap.size (bodyC s p A2 n2 c2 (some ad) l03.length c3) 25 := heap_alloc_new w _
  have hlow := below_alloc (Below.refl w.heap.size w) (.cells (bodyC s p A2 n2 c2 (some ad) l03.length c3) 25)
  generalize w.alloc (.cells (bodyC s p A2 n2 c2 (some ad) l03.length c3) 25) = w1 at *
  have HBX := Lib.hid hbx
  have HLO := Lib.hid hlow
  clear hbx hlow
  go_loopw [5, 6] (fun u5 u6 wr => ∃ k : Nat, u6 = .int .i64 k ∧ k ≤ tos.length ∧ Hid (OI wr w.heap.size u5 (okTo l03.length (tos.take k))) ∧ Hid (Below w.heap.size w wr) ∧ Hid (BoxIs wr w.heap.size (bodyC s p A2 n2 c2 (some ad) l03.length c3) 25)) (fun _ u6 _ => tos.length - (intOf u6).toNat)
  case atStart => exact ⟨0, rfl, Nat.zero_le _, Lib.hid (own_nil _ _ _ _), HLO, HBX⟩
  case round =>
    clear HLO HBX
    obtain ⟨k, rfl, hk, HO, HLO4, HBX4⟩ := hrel
    have e3 := HBX4.out.cell 3 _ rfl
    have e16 := pw_cell_below HLO4.out hc16
    by_cases hlt : k < tos.length
    · obtain ⟨x, hx⟩ : ∃ x, tos[k]? = some x := ⟨_, List.getElem?_eq_getElem hlt⟩
      obtain ⟨az, haz, hzc⟩ := Kd.at_int (Kd.C_below HR.out HLO4.out) (k : Int) (by omega) (by omega)
      rw [rd_nat, Int.toNat_natCast, show tos.getD k 0 = x by rw [List.getD_eq_getElem?_getD, hx]; rfl] at hzc
      subst haz
      have HY := Lib.hid (okTo_snoc_yes l03.length tos k x hx)
      have HN := Lib.hid (okTo_snoc_no l03.length tos k x hx)
      have HLE : (okTo l03.length (tos.take k)).length ≤ 30 := by
        have h1 := okTo_le l03.length (tos.take k)
        rw [List.length_take] at h1
        omega
      clear hx
      by_cases x0 : 0 ≤ x
      · by_cases x1 : x < (l03.length : Int)
        · have HO1 : Hid (wr.ownsRow w.heap.size 3 1 u5 (encs (Value.int .i64) (okTo l03.length (tos.take k))).length (encs (Value.int .i64) (okTo l03.length (tos.take k)))) := Lib.hid (by rw [encs_length]; exact HO.out)
          go_wp2_with (first | (at_builtin; refine print_append (w0 := w) w.heap.size rfl (.tmp 39) (.tmp 41) 42 3 (.int .i64 0) 8 rfl Try.underlying42 info3 rfl (by decide) u5 (encs (Value.int .i64) (okTo l03.length (tos.take k))) _ rfl rfl rfl HO1.out HLO4.out HLO4.out.size (by rw [encs_length]; omega) ?_; intro v5 w5 ho5 hb5 hg5 _; have HO5 := Lib.hid ho5; have HB5 := Lib.hid hb5; have HG5 := Lib.hid hg5; clear ho5 hb5 hg5))
          go_roundw
          case rel =>
            refine ⟨k + 1, by go_num, by omega, Lib.hid ?_, HB5, Lib.hid (HBX4.out.grown HG5.out (fun e => ?_))⟩
            · have h := HO5.out
              rw [HY.out x0 x1]
              unfold OI
              have e1 : encs (Value.int .i64) (okTo l03.length (tos.take k) ++ [x]) = encs (Value.int .i64) (okTo l03.length (tos.take k)) ++ [Value.int .i64 x] := by simp [encs]
              rw [← e1, encs_length] at h
              exact h
            · obtain ⟨c, hc⟩ := own_typed HO.out _ e
              have h6 := HBX4.out
              unfold BoxIs at h6
              rw [hc] at h6
              injection h6 with h6
              injection h6 with _ h6
              cases h6
          case measure => first | (simp [intOf]; omega) | (simp [intOf]; done)
        · have x1' : ¬ x < (l03.length : Int) := x1
          go_wp2_with fail
          go_roundw
          case rel => exact ⟨k + 1, by go_num, by omega, by rw [HN.out (.inr (by omega))]; exact HO, HLO4, HBX4⟩
          case measure => first | (simp [intOf]; omega) | (simp [intOf]; done)
      · have x0' : ¬ 0 ≤ x := x0
        go_wp2_with fail
        go_roundw
        case rel => exact ⟨k + 1, by go_num, by omega, by rw [HN.out (.inl (by omega))]; exact HO, HLO4, HBX4⟩
        case measure => first | (simp [intOf]; omega) | (simp [intOf]; done)
    · obtain rfl : k = tos.length := by omega
      rw [List.take_length] at HO
      clear hlt hk
      go_wp2_with fail
      go_ret
      exact ⟨_, rfl, HO.out, HLO4.out⟩
end Go.Proofs.Ythgnbeeobhfeaaa.T
end

section
/- Lemmas for walks of rows of rows of flags. -/
namespace Go.Proofs.Ythgnbeeobhfeaaa.T
open Go.RowKit Go.Shelf Go.Proofs.YthgnbeeobhfeaaaW.PrintWords Go.Proofs.YthgnbeeobhfeaaaW.PrintLast

theorem N3.at2 {W : World} {B g n c : Nat} {xsss : List (List (List Bool))} (h : N3 W B (.slice (some ⟨g, 0, none⟩) n c) xsss) {i : Nat} {X : List (List Bool)} (hi : xsss[i]? = some X) : ∃ A d, W.cell? ⟨g, i, none⟩ = some (.slice A X.length d) ∧ N2 W B (.slice A X.length d) X := by
  obtain ⟨g', c', A, d, e, h1, h2⟩ := h.at_ hi
  injection e with e1 _ _
  injection e1 with e1
  injection e1 with e1 _ _
  subst e1
  exact ⟨A, d, h1, h2⟩
theorem N2.at2 {W : World} {B g n c : Nat} {xss : List (List Bool)} (h : N2 W B (.slice (some ⟨g, 0, none⟩) n c) xss) {i : Nat} {X : List Bool} (hi : xss[i]? = some X) : ∃ A d, W.cell? ⟨g, i, none⟩ = some (.slice A X.length d) ∧ OB W B (.slice A X.length d) X := by
  obtain ⟨g', c', A, d, e, h1, h2⟩ := h.at_ hi
  injection e with e1 _ _
  injection e1 with e1
  injection e1 with e1 _ _
  subst e1
  exact ⟨A, d, h1, h2⟩
theorem OB.at2 {W : World} {B : Nat} {A : Option Addr} {n c : Nat} {xs : List Bool} (h : OB W B (.slice A n c) xs) {i : Nat} {b : Bool} (hi : xs[i]? = some b) : ∃ g, A = some ⟨g, 0, none⟩ ∧ W.cell? ⟨g, i, none⟩ = some (.bool b) := by
  obtain ⟨g', c', e, h1⟩ := h.at_ hi
  injection e with e1 _ _
  exact ⟨g', e1, h1⟩
theorem OI.at2 {W : World} {B : Nat} {A : Option Addr} {n c : Nat} {xs : List Int} (h : OI W B (.slice A n c) xs) {i : Nat} {b : Int} (hi : xs[i]? = some b) : ∃ g, A = some ⟨g, 0, none⟩ ∧ W.cell? ⟨g, i, none⟩ = some (.int .i64 b) := by
  obtain ⟨g', c', e, h1⟩ := h.at_ hi
  injection e with e1 _ _
  exact ⟨g', e1, h1⟩
theorem N2.head {W : World} {B : Nat} {A : Option Addr} {n d : Nat} {xss : List (List Bool)} (h : N2 W B (.slice A n d) xss) (hl : 0 < xss.length) : ∃ g, A = some ⟨g, 0, none⟩ := by
  obtain ⟨g', c', A', d', e, h1, h2⟩ := h.at_ (List.getElem?_eq_getElem hl)
  injection e with e1 _ _
  exact ⟨g', e1⟩

end Go.Proofs.Ythgnbeeobhfeaaa.T
end
