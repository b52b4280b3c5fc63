/- Texts of this claim in one file: H28, H29, H30. -/
import Derived.Test.YthgnbeeobhfeaaaK7
import Derived.Test.YthgnbeeobhfeaaaK10
set_option linter.all false
section
/- Walks: the blocks that a block goes to (the document's). -/
namespace Go.Proofs.Ythgnbeeobhfeaaa.T
open Go.RowKit Go.Shelf Go.Proofs.YthgnbeeobhfeaaaW.PrintWords Go.Proofs.YthgnbeeobhfeaaaW.PrintLast

/-- Numbers of the call's own. -/
def OI (W : World) (B : Nat) (v : Value) (xs : List Int) : Prop := W.ownsRow B 3 1 v xs.length (encs (Value.int .i64) xs)
theorem OI.at_ {W : World} {B : Nat} {v : Value} {xs : List Int} (h : OI W B v xs) {j : Nat} {b : Int} (hj : xs[j]? = some b) : ∃ g c, v = .slice (some ⟨g, 0, none⟩) xs.length c ∧ W.cell? ⟨g, j, none⟩ = some (.int .i64 b) := by
  have hlt := (List.getElem?_eq_some_iff.1 hj).1
  obtain ⟨g, c, rfl, _, _⟩ := World.ownsRow.form h (by omega)
  have := World.ownsRow.cells h (g := g) rfl j (.int .i64 b) (by simp [encs, hj])
  rw [add_plain] at this
  exact ⟨g, c, rfl, this⟩
theorem OI.slice {W : World} {B : Nat} {v : Value} {xs : List Int} (h : OI W B v xs) : ∃ A c, v = .slice A xs.length c := own_slice h
theorem OI.below {W W' : World} {B : Nat} {v : Value} {xs : List Int} (h : OI W B v xs) (hb : Below W.heap.size W W') : OI W' B v xs := pw_own_below h hb

set_option maxRecDepth 100000 in
set_option maxHeartbeats 8000000 in
theorem rto_any (s : ByteArray) (p : Int) (A2 : Option Addr) (n2 c2 : Nat) (A3 : Option Addr) (c3 : Nat) (l03 : List S58) (i : Nat) (w : World) (hC : Kd.C k58 w A3 l03.length l03) (hi : i < l03.length) (hf : fewB l03 = true) :
    Calls Try.prog 23 #[bodyV s p A2 n2 c2 A3 l03.length c3, .int .i64 i] w fun e w' => ∃ v, e = .returned v ∧ OI w' w.heap.size v (succI (bksOf l03) i) ∧ Below w.heap.size w w' := by
  have hl3 : l03.length ≤ 9223372036854775807 := hC.2.1
  have hsuc : succI (bksOf l03) i = okTo l03.length (rd_T58 l03 i).f1.f5 := by
    rw [succI, rd_T58_get hi, bksOf_length]; rfl
  rw [hsuc]
  clear hsuc
  have hto : (rd_T58 l03 i).f1.f5.length ≤ 30 := by
    have he : rd_T58 l03 i ∈ l03 := by simp [rd_T58, List.getElem?_eq_getElem hi, List.getD_eq_getElem?_getD]
    exact ((fewB_at hf).2 _ he).2
  clear hf
  obtain ⟨ad, A0, c0, A16, c16, hA, _, hc16, hr⟩ := bk_at hC i hi
  subst hA
  generalize htos : (rd_T58 l03 i).f1.f5 = tos at *
  have HR := Lib.hid hr
  clear hC htos hr
  go_enter Try.func23, Try.ntmps23
  go_wp2_with fail
  have hbx : BoxIs (w.alloc (.cells (bodyC s p A2 n2 c2 (some ad) l03.length c3) 25)) w.heap.size (bodyC s p A2 n2 c2 (some ad) l03.length c3) 25 := heap_alloc_new w _
  have hlow := below_alloc (Below.refl w.heap.size w) (.cells (bodyC s p A2 n2 c2 (some ad) l03.length c3) 25)
  generalize w.alloc (.cells (bodyC s p A2 n2 c2 (some ad) l03.length c3) 25) = w1 at *
  have HBX := Lib.hid hbx
  have HLO := Lib.hid hlow
  clear hbx hlow
  go_loopw [5, 6] (fun u5 u6 wr => ∃ k : Nat, u6 = .int .i64 k ∧ k ≤ tos.length ∧ Hid (OI wr w.heap.size u5 (okTo l03.length (tos.take k))) ∧ Hid (Below w.heap.size w wr) ∧ Hid (BoxIs wr w.heap.size (bodyC s p A2 n2 c2 (some ad) l03.length c3) 25)) (fun _ u6 _ => tos.length - (intOf u6).toNat)
  case atStart => exact ⟨0, rfl, Nat.zero_le _, Lib.hid (own_nil _ _ _ _), HLO, HBX⟩
  case round =>
    clear HLO HBX
    obtain ⟨k, rfl, hk, HO, HLO4, HBX4⟩ := hrel
    have e3 := HBX4.out.cell 3 _ rfl
    have e16 := pw_cell_below HLO4.out hc16
    by_cases hlt : k < tos.length
    · obtain ⟨x, hx⟩ : ∃ x, tos[k]? = some x := ⟨_, List.getElem?_eq_getElem hlt⟩
      obtain ⟨az, haz, hzc⟩ := Kd.at_int (Kd.C_below HR.out HLO4.out) (k : Int) (by omega) (by omega)
      rw [rd_nat, Int.toNat_natCast, show tos.getD k 0 = x by rw [List.getD_eq_getElem?_getD, hx]; rfl] at hzc
      subst haz
      have HY := Lib.hid (okTo_snoc_yes l03.length tos k x hx)
      have HN := Lib.hid (okTo_snoc_no l03.length tos k x hx)
      have HLE : (okTo l03.length (tos.take k)).length ≤ 30 := by
        have h1 := okTo_le l03.length (tos.take k)
        rw [List.length_take] at h1
        omega
      clear hx
      by_cases x0 : 0 ≤ x
      · by_cases x1 : x < (l03.length : Int)
        · have HO1 : Hid (wr.ownsRow w.heap.size 3 1 u5 (encs (Value.int .i64) (okTo l03.length (tos.take k))).length (encs (Value.int .i64) (okTo l03.length (tos.take k)))) := Lib.hid (by rw [encs_length]; exact HO.out)
          go_wp2_with (first | (at_builtin; refine print_append (w0 := w) w.heap.size rfl (.tmp 39) (.tmp 41) 42 3 (.int .i64 0) 8 rfl Try.underlying42 info3 rfl (by decide) u5 (encs (Value.int .i64) (okTo l03.length (tos.take k))) _ rfl rfl rfl HO1.out HLO4.out HLO4.out.size (by rw [encs_length]; omega) ?_; intro v5 w5 ho5 hb5 hg5 _; have HO5 := Lib.hid ho5; have HB5 := Lib.hid hb5; have HG5 := Lib.hid hg5; clear ho5 hb5 hg5))
          go_roundw
          case rel =>
            refine ⟨k + 1, by go_num, by omega, Lib.hid ?_, HB5, Lib.hid (HBX4.out.grown HG5.out (fun e => ?_))⟩
            · have h := HO5.out
              rw [HY.out x0 x1]
              unfold OI
              have e1 : encs (Value.int .i64) (okTo l03.length (tos.take k) ++ [x]) = encs (Value.int .i64) (okTo l03.length (tos.take k)) ++ [Value.int .i64 x] := by simp [encs]
              rw [← e1, encs_length] at h
              exact h
            · obtain ⟨c, hc⟩ := own_typed HO.out _ e
              have h6 := HBX4.out
              unfold BoxIs at h6
              rw [hc] at h6
              injection h6 with h6
              injection h6 with _ h6
              cases h6
          case measure => first | (simp [intOf]; omega) | (simp [intOf]; done)
        · have x1' : ¬ x < (l03.length : Int) := x1
          go_wp2_with fail
          go_roundw
          case rel => exact ⟨k + 1, by go_num, by omega, by rw [HN.out (.inr (by omega))]; exact HO, HLO4, HBX4⟩
          case measure => first | (simp [intOf]; omega) | (simp [intOf]; done)
      · have x0' : ¬ 0 ≤ x := x0
        go_wp2_with fail
        go_roundw
        case rel => exact ⟨k + 1, by go_num, by omega, by rw [HN.out (.inl (by omega))]; exact HO, HLO4, HBX4⟩
        case measure => first | (simp [intOf]; omega) | (simp [intOf]; done)
    · obtain rfl : k = tos.length := by omega
      rw [List.take_length] at HO
      clear hlt hk
      go_wp2_with fail
      go_ret
      exact ⟨_, rfl, HO.out, HLO4.out⟩
end Go.Proofs.Ythgnbeeobhfeaaa.T
end

section
/- The plain laws of what is needed: one step, one block, and what is needed behind a block. -/
namespace Go.Proofs.Ythgnbeeobhfeaaa.T
open Go.RowKit Go.Shelf Go.Proofs.YthgnbeeobhfeaaaW.PrintWords Go.Proofs.YthgnbeeobhfeaaaW.PrintLast

theorem backStates_end (cs : List Ch) (b : Int) : ∀ (r : Nat) (e : List Bool), (backStates cs b r e)[r]? = some e
  | 0, e => rfl
  | r + 1, e => by rw [backStates, List.getElem?_append_right (by rw [backStates_length]; omega), backStates_length]; simp
theorem backStates_step (cs : List Ch) (b : Int) : ∀ (r : Nat) (e : List Bool) (k : Nat), k < r → ∃ y, (backStates cs b r e)[k + 1]? = some y ∧ (backStates cs b r e)[k]? = some (stepL cs b k y)
  | 0, e, k, h => by omega
  | r + 1, e, k, h => by
    rw [backStates]
    by_cases hk : k < r
    · obtain ⟨y, h1, h2⟩ := backStates_step cs b r (stepL cs b r e) k hk
      refine ⟨y, ?_, ?_⟩
      · rw [List.getElem?_append_left (by rw [backStates_length]; omega), h1]
      · rw [List.getElem?_append_left (by rw [backStates_length]; omega), h2]
    · obtain rfl : k = r := by omega
      refine ⟨e, ?_, ?_⟩
      · rw [List.getElem?_append_right (by rw [backStates_length]; omega), backStates_length]; simp
      · rw [List.getElem?_append_left (by rw [backStates_length]; omega), backStates_end]
/-- What is needed ahead of a block. -/
noncomputable def headV (bs : List Bk) (cs : List Ch) (j n : Nat) : Bool := blockU bs cs j n (endV bs cs j n)
theorem endV_eq (bs : List Bk) (cs : List Ch) (j n : Nat) : endV bs cs j n = (succI bs n).any fun q => headV bs cs j q.toNat := by
  rw [Bool.eq_iff_iff, List.any_eq_true]
  have h1 : endV bs cs j n = true ↔ Mv false (fun _ => False) (blockU bs cs j) (fun p m => edge bs m p = true) n := by
    have := mvV_ne (e := false) (S := fun _ => False) (T := blockU bs cs j) (E := fun p m => edge bs m p = true) (n := n)
    rw [← this, endV]
    simp
  rw [h1]
  constructor
  · intro h
    cases h with
    | start h => exact h.elim
    | @gen p _ hE hT =>
      refine ⟨(p : Int), edge_iff.1 hE, ?_⟩
      rw [Int.toNat_natCast]
      have : headV bs cs j p ≠ false := mono_ne (f := blockU bs cs j p) (blockU_mono bs cs j p) (e := false) (x := false) (y := endV bs cs j p) (fun q => absurd rfl q) hT
      simpa using this
    | @pass p _ hE hp hT =>
      refine ⟨(p : Int), edge_iff.1 hE, ?_⟩
      rw [Int.toNat_natCast]
      have he : endV bs cs j p = true := by
        have := mvV_ne.2 hp
        unfold endV
        simpa using this
      unfold headV
      rw [he]
      simpa using hT
  · rintro ⟨q, hq, h⟩
    have h0 := mem_succI hq
    obtain ⟨p, rfl⟩ := Int.eq_ofNat_of_zero_le h0.1
    rw [Int.toNat_natCast] at h
    exact Mv.edge (p := p) (edge_iff.2 hq) (by
      show headV bs cs j p ≠ false
      rw [h]; decide)
/-- A block's rows. -/
structure BackRow (bs : List Bk) (cs : List Ch) (N i : Nat) (X : List (List Bool)) : Prop where
  len : X.length = insN bs i + 2
  rows : ∀ (k : Nat) (u : List Bool), X[k]? = some u → u.length = N
  step : ∀ (k : Nat) (u y : List Bool) (j : Nat) (a b : Bool), X[k]? = some u → X[k + 1]? = some y → u[j]? = some a → y[j]? = some b → a = (genB cs i k j || (b && !kilB cs i k j))
  head : ∀ (u : List Bool) (j : Nat) (a : Bool), X[0]? = some u → u[j]? = some a → a = headV bs cs j i
  last : ∀ (u : List Bool) (j : Nat) (a : Bool), X[insN bs i + 1]? = some u → u[j]? = some a → a = endV bs cs j i
theorem backL_row {bs : List Bk} {cs : List Ch} {N i : Nat} {X : List (List Bool)} (h : (backL bs N cs)[i]? = some X) : i < bs.length ∧ BackRow bs cs N i X := by
  have hi : i < bs.length := by
    have := (List.getElem?_eq_some_iff.1 h).1
    simpa [backL] using this
  rw [backL, List.getElem?_map, List.getElem?_range hi, Option.map_some, Option.some.injEq] at h
  have he : (endL bs N cs i).length = N := by simp [endL]
  subst h
  refine ⟨hi, backStates_length _ _, fun k u hu => ?_, fun k u y j a b hu hy ha hb => ?_, fun u j a hu ha => ?_, fun u j a hu ha => ?_⟩
  · rw [backStates_rows _ _ _ _ _ (List.mem_of_getElem? hu), he]
  · have hk : k < insN bs i + 1 := by
      have := (List.getElem?_eq_some_iff.1 hy).1
      rw [backStates_length] at this
      unfold insN
      omega
    obtain ⟨z, h1, h2⟩ := backStates_step cs (i : Int) (insN bs i + 1) (endL bs N cs i) k hk
    have e1 : z = y := Option.some.inj (h1.symm.trans hy)
    have e2 : stepL cs i k z = u := Option.some.inj (h2.symm.trans hu)
    subst e1 e2
    have := stepL_get (cs := cs) (b := (i : Int)) (k := (k : Int)) hb
    rw [this, Option.some.injEq] at ha
    exact ha.symm
  · rw [backStates_head, Option.some.injEq] at hu
    subst hu
    have hj : j < N := by
      have := (List.getElem?_eq_some_iff.1 ha).1
      rwa [backRun_length, he] at this
    have h1 : (endL bs N cs i)[j]? = some (endV bs cs j i) := by simp [endL, hj]
    rw [backRun_get _ h1, Option.some.injEq] at ha
    exact ha.symm
  · have h1 := backStates_end cs (i : Int) (insN bs i + 1) (endL bs N cs i)
    have e1 : endL bs N cs i = u := Option.some.inj (h1.symm.trans hu)
    subst e1
    have hj : j < N := by
      have := (List.getElem?_eq_some_iff.1 ha).1
      rwa [he] at this
    have h1 : (endL bs N cs i)[j]? = some (endV bs cs j i) := by simp [endL, hj]
    rw [h1, Option.some.injEq] at ha
    exact ha.symm
theorem backL_length (bs : List Bk) (N : Nat) (cs : List Ch) : (backL bs N cs).length = bs.length := by simp [backL]
theorem insN_of {l03 : List S58} {i : Nat} (hi : i < l03.length) : insN (bksOf l03) i = (rd_T58 l03 i).f0.length := by rw [insN, rd_T58_get hi]; rfl
theorem gen_of (cs : List S66) (i k j : Nat) : genB (chsOf cs) i k j = cs.any (markS i k j true) := marked_any_eq cs i k j true
theorem kil_of (cs : List S66) (i k j : Nat) : kilB (chsOf cs) i k j = cs.any (markS i k j false) := marked_any_eq cs i k j false
end Go.Proofs.Ythgnbeeobhfeaaa.T
end

section
/- Walks: what is needed, along any way. -/
namespace Go.Proofs.Ythgnbeeobhfeaaa.T
open Go.RowKit Go.Shelf Go.Proofs.YthgnbeeobhfeaaaW.PrintWords Go.Proofs.YthgnbeeobhfeaaaW.PrintLast

theorem wrap_small {x : Int} (h0 : -9223372036854775808 ≤ x) (h1 : x ≤ 9223372036854775807) : wrap64 x = x := by
  unfold wrap64
  omega
theorem wrapK_small {x : Int} (h0 : -9223372036854775808 ≤ x) (h1 : x ≤ 9223372036854775807) : IntKind.i64.wrap x = x := by
  rw [IntKind.wrap_i64]
  omega
/-- Where a number among others is, of any number. -/
theorem turn_in (a : Int) (L : Nat) (hL : 0 < L) (h : L ≤ 30) : ∃ m : Nat, m < L ∧ Int.tmod (wrap64 (Int.tmod a (L : Int) + (L : Int))) (L : Int) = (m : Int) := by
  have h1 : Int.tmod a (L : Int) < (L : Int) := Int.tmod_lt_of_pos a (by omega)
  have h2 : -(L : Int) < Int.tmod a (L : Int) := by
    have := Int.lt_tmod_of_pos a (show (0 : Int) < (L : Int) by omega)
    exact this
  generalize Int.tmod a (L : Int) = x at *
  rw [wrap_small (by omega) (by omega), Int.tmod_eq_emod_of_nonneg (by omega)]
  refine ⟨((x + L) % (L : Int)).toNat, ?_, ?_⟩
  · have := Int.emod_lt_of_pos (x + L) (show (0 : Int) < (L : Int) by omega)
    have := Int.emod_nonneg (x + L) (show (L : Int) ≠ 0 by omega)
    omega
  · have := Int.emod_nonneg (x + L) (show (L : Int) ≠ 0 by omega)
    omega

theorem N3.at2 {W : World} {B g n c : Nat} {xsss : List (List (List Bool))} (h : N3 W B (.slice (some ⟨g, 0, none⟩) n c) xsss) {i : Nat} {X : List (List Bool)} (hi : xsss[i]? = some X) : ∃ A d, W.cell? ⟨g, i, none⟩ = some (.slice A X.length d) ∧ N2 W B (.slice A X.length d) X := by
  obtain ⟨g', c', A, d, e, h1, h2⟩ := h.at_ hi
  injection e with e1 _ _
  injection e1 with e1
  injection e1 with e1 _ _
  subst e1
  exact ⟨A, d, h1, h2⟩
theorem N2.at2 {W : World} {B g n c : Nat} {xss : List (List Bool)} (h : N2 W B (.slice (some ⟨g, 0, none⟩) n c) xss) {i : Nat} {X : List Bool} (hi : xss[i]? = some X) : ∃ A d, W.cell? ⟨g, i, none⟩ = some (.slice A X.length d) ∧ OB W B (.slice A X.length d) X := by
  obtain ⟨g', c', A, d, e, h1, h2⟩ := h.at_ hi
  injection e with e1 _ _
  injection e1 with e1
  injection e1 with e1 _ _
  subst e1
  exact ⟨A, d, h1, h2⟩
theorem OB.at2 {W : World} {B : Nat} {A : Option Addr} {n c : Nat} {xs : List Bool} (h : OB W B (.slice A n c) xs) {i : Nat} {b : Bool} (hi : xs[i]? = some b) : ∃ g, A = some ⟨g, 0, none⟩ ∧ W.cell? ⟨g, i, none⟩ = some (.bool b) := by
  obtain ⟨g', c', e, h1⟩ := h.at_ hi
  injection e with e1 _ _
  exact ⟨g', e1, h1⟩
theorem OI.at2 {W : World} {B : Nat} {A : Option Addr} {n c : Nat} {xs : List Int} (h : OI W B (.slice A n c) xs) {i : Nat} {b : Int} (hi : xs[i]? = some b) : ∃ g, A = some ⟨g, 0, none⟩ ∧ W.cell? ⟨g, i, none⟩ = some (.int .i64 b) := by
  obtain ⟨g', c', e, h1⟩ := h.at_ hi
  injection e with e1 _ _
  exact ⟨g', e1, h1⟩
theorem N2.head {W : World} {B : Nat} {A : Option Addr} {n d : Nat} {xss : List (List Bool)} (h : N2 W B (.slice A n d) xss) (hl : 0 < xss.length) : ∃ g, A = some ⟨g, 0, none⟩ := by
  obtain ⟨g', c', A', d', e, h1, h2⟩ := h.at_ (List.getElem?_eq_getElem hl)
  injection e with e1 _ _
  exact ⟨g', e1⟩

set_option maxRecDepth 100000 in
set_option maxHeartbeats 16000000 in
theorem backway_any (s : ByteArray) (p : Int) (A2 : Option Addr) (n2 c2 : Nat) (A3 : Option Addr) (c3 : Nat) (l03 : List S58) (n : Int) (Al : Option Addr) (cl : Nat) (cs : List S66) (Aw : Option Addr) (cw : Nat) (way : List Int) (j : Int) (w : World)
    (hC : Kd.C k58 w A3 l03.length l03) (hCs : Kd.C k66 w Al cs.length cs) (hcl : cs.length ≤ cl) (hWs : ∀ c ∈ cs, inW c.f0 = true ∧ inW c.f1 = true) (hW : (Kd.int .i64).C w Aw way.length way) :
    Calls Try.prog 8 #[bodyV s p A2 n2 c2 A3 l03.length c3, .int .i64 n, .slice Al cs.length cl, .slice Aw way.length cw, .int .i64 j] w fun e w' => e = .returned (.bool true) ∧ Below w.heap.size w w' := by
  have HC := Lib.hid hC
  have HCs := Lib.hid hCs
  have HWs := Lib.hid hWs
  have HWY := Lib.hid hW
  have hlw : way.length ≤ 9223372036854775807 := hW.2.1
  have hl3 : l03.length ≤ 9223372036854775807 := hC.2.1
  clear hC hCs hWs hW
  go_enter Try.func8, Try.ntmps8
  go_wp2_with fail
  have hbx : BoxIs (w.alloc (.cells (bodyC s p A2 n2 c2 A3 l03.length c3) 25)) w.heap.size (bodyC s p A2 n2 c2 A3 l03.length c3) 25 := heap_alloc_new w _
  have hlow := below_alloc (Below.refl w.heap.size w) (.cells (bodyC s p A2 n2 c2 A3 l03.length c3) 25)
  generalize w.alloc (.cells (bodyC s p A2 n2 c2 A3 l03.length c3) 25) = w1 at *
  refine (works_any w1).mono ?_
  rintro e w2 ⟨rfl, hb⟩
  replace hbx := hbx.below hb hbx.lt
  replace hlow := below_then hlow hlow.size hb
  clear hb
  have e0 := hbx.cell 0 _ rfl
  have e1 := hbx.cell 1 _ rfl
  have e2 := hbx.cell 2 _ rfl
  have e3 := hbx.cell 3 _ rfl
  have HBX := Lib.hid hbx
  have HLO := Lib.hid hlow
  clear hbx hlow
  go_wp2_with fail
  refine (over_any s p A2 n2 c2 A3 c3 l03 n Al cl cs w2 (Kd.C_below HC.out HLO.out) (Kd.C_below HCs.out HLO.out)).mono ?_
  rintro e w3 ⟨_, rfl, ⟨o, rfl, ho⟩, hb⟩
  have HBX3 := Lib.hid (HBX.out.below hb HBX.out.lt)
  have HLO3 := Lib.hid (below_then HLO.out HLO.out.size hb)
  clear hb HBX HLO e0 e1 e2 e3
  have e3 := HBX3.out.cell 3 _ rfl
  cases o with
  | true =>
    clear ho
    go_wp2_with fail
    go_ret
    exact ⟨rfl, HLO3.out⟩
  | false =>
    obtain ⟨hfew, hn30, hfc⟩ := ho rfl
    clear ho
    by_cases k1 : way.length > 30
    · have k1' : (way.length : Int) > 30 := by omega
      go_wp2_with fail
      go_ret
      exact ⟨rfl, HLO3.out⟩
    · have k1' : ¬ ((way.length : Int) > 30) := by omega
      by_cases k2 : l03.length = 0
      · have k2' : ((l03.length : Int) == 0) = true := by simpa using k2
        go_wp2_with fail
        go_ret
        exact ⟨rfl, HLO3.out⟩
      · have k2' : ((l03.length : Int) == 0) = false := by
          rw [beq_eq_false_iff_ne]
          omega
        by_cases k3 : j < 0
        · go_wp2_with fail
          go_ret
          exact ⟨rfl, HLO3.out⟩
        · by_cases k4 : n ≤ j
          · go_wp2_with fail
            go_ret
            exact ⟨rfl, HLO3.out⟩
          · obtain ⟨J, rfl⟩ := Int.eq_ofNat_of_zero_le (show 0 ≤ j by omega)
            obtain ⟨N, rfl⟩ := Int.eq_ofNat_of_zero_le (show 0 ≤ n by omega)
            have hJN : J < N := by omega
            have hcf := fewC_len hfc
            have hbk1 := back_any s p A2 n2 c2 A3 c3 l03 N Al cl cs w3 (Kd.C_below HC.out HLO3.out) hfew hn30 (Kd.C_below HCs.out HLO3.out) hcl hcf HWs.out
            rw [Int.toNat_natCast] at hbk1
            have HBK := Lib.hid hbk1
            have e0 := HBX3.out.cell 0 _ rfl
            have e1 := HBX3.out.cell 1 _ rfl
            have e2 := HBX3.out.cell 2 _ rfl
            have hmk0 : ∀ W : World, (Instr.makeSlice 26 (.int .i64 0) (.int .i64 0)).run Try.prog W = .ok (.slice (some ⟨W.heap.size, 0, none⟩) 0 0) (W.alloc (.cells (madeCells #[.bool false] 0) 4)) := fun W => run_make_row' (P := Try.prog) 26 4 (.bool false) 1 Try.underlying26 info4 rfl .i64 .i64 0 (by omega) (by omega) W
            clear hbk1
            go_wp2_with fail
            refine HBK.out.mono ?_
            rintro e w6 ⟨v6, rfl, hN6, hb6⟩
            obtain ⟨Axx, cxx, rfl⟩ := hN6.slice
            have hxl := backL_length (bksOf l03) N (chsOf cs)
            rw [bksOf_length] at hxl
            rw [hxl]
            have HXL := Lib.hid hxl
            have HBX6 := Lib.hid (HBX3.out.below hb6 HBX3.out.lt)
            have hlt6 : w.heap.size < w6.heap.size := HBX6.out.lt
            have HLO6 := Lib.hid (below_then HLO3.out HLO3.out.size hb6)
            have HROW : Hid (∀ (i : Nat) (X : List (List Bool)), (backL (bksOf l03) N (chsOf cs))[i]? = some X → BackRow (bksOf l03) (chsOf cs) N i X) := Lib.hid (fun i X hX => (backL_row hX).2)
            have HNX := Lib.hid hN6
            have HFEW := Lib.hid hfew
            have hl30 : l03.length ≤ 30 := (fewB_at hfew).1
            clear hb6 hN6 hxl HBK e0 e1 e2 e3 k1' k2' HBX3 HLO3 hfew hcf hfc
            generalize backL (bksOf l03) N (chsOf cs) = xsss at *
            have HOW : Hid (OB (w6.alloc (.cells (madeCells #[.bool false] 0) 4)) w6.heap.size (.slice (some ⟨w6.heap.size, 0, none⟩) 0 0) []) := Lib.hid (by
              have o2 := World.ownsRow_lit (base := w6.heap.size) (e := 4) (size := 1) w6 (madeCells #[.bool false] 0) 0 (by simp) (by simp [maxLen]) (by simp [size_madeCells])
              have hl : (madeCells #[Value.bool false] 0).toList = [] := by simp [madeCells]
              rw [hl] at o2
              simpa [OB, encs] using o2)
            have HBA : Hid (Below w6.heap.size w6 (w6.alloc (.cells (madeCells #[.bool false] 0) 4))) := Lib.hid (below_alloc (Below.refl _ _) _)
            go_wp2_with fail
            generalize w6.alloc (.cells (madeCells #[.bool false] 0) 4) = w7 at *
            go_loopw [14, 15, 16] (fun u14 u15 u16 wr => ∃ (at_ t : Nat) (need : List Bool), u14 = .int .i64 at_ ∧ u16 = .int .i64 t ∧ at_ < l03.length ∧ t ≤ way.length ∧ need.length = t ∧ Hid (OB wr w6.heap.size u15 need) ∧ Hid (Below w6.heap.size w6 wr)) (fun _ _ u16 _ => way.length + 1 - (intOf u16).toNat)
            case atStart => exact ⟨0, 0, [], rfl, rfl, by omega, Nat.zero_le _, rfl, HOW, HBA⟩
            case round =>
              clear HOW HBA hmk0
              obtain ⟨at_, t, need, rfl, rfl, hat, ht, hnl, HO, HW⟩ := hrel
              obtain ⟨wo, rfl⟩ : ∃ x, x = wr := ⟨wr, rfl⟩
              have hbx := HBX6.out.below HW.out hlt6
              have e3 := hbx.cell 3 _ rfl
              obtain ⟨X, hX⟩ : ∃ X, xsss[at_]? = some X := ⟨_, List.getElem?_eq_getElem (by have := HXL.out; omega)⟩
              have hrow := HROW.out at_ X hX
              obtain ⟨gx, cx', Ax, dx, ex, hcx, hnx⟩ := HNX.out.at_ hX
              injection ex with ex1 ex2 ex3
              subst ex1
              clear ex2 ex3 hX
              have zx := pw_cell_below HW.out hcx
              obtain ⟨ad, A0, d0, A16, d16, hA, hcc, _, _⟩ := bk_at HC.out at_ hat
              subst hA
              have zb := pw_cell_below (below_then HLO6.out HLO6.out.size HW.out) hcc
              have hI := (fewB_at HFEW.out).2 (rd_T58 l03 at_) (by simp [rd_T58, List.getElem?_eq_getElem hat, List.getD_eq_getElem?_getD])
              have hXl := hrow.len
              rw [insN_of hat] at hXl
              rw [hXl] at zx hcx hnx
              obtain ⟨I, hIe⟩ : ∃ I, I = (rd_T58 l03 at_).f0.length := ⟨_, rfl⟩
              rw [← hIe] at zx zb hXl hI hcx hnx
              have hi30 : I ≤ 30 := hI.1
              have HNx := Lib.hid hnx
              have HRow := Lib.hid hrow
              have HBXr := Lib.hid hbx
              have HIe := Lib.hid hIe
              have HXl := Lib.hid hXl
              have hatd : decide (l03.length ≤ at_) = false := by simp; omega
              have hatd2 : decide ((l03.length : Int) ≤ (at_ : Int)) = false := by simp; omega
              have hne2 : ((I : Int) + 2 != IntKind.i64.wrap ((I : Int) + 2)) = false := by rw [wrapK_small (by omega) (by omega)]; simp
              have hne : (((I + 2 : Nat) : Int) != (I : Int) + 2) = false := by simp
              have htw : (t : Int) ≤ (way.length : Int) := by omega
              have HCX0 := Lib.hid hcx
              clear hnx hrow hcx hcc hI hIe hXl hbx
              have hwv : Value.int .i64 (wrap64 ((I : Int) + 2)) = Value.int .i64 ((I : Int) + 2) := congrArg (Value.int .i64) (wrap_small (by omega) (by omega))
              go_wp2_with fail
              go_quiet (fail)
              obtain ⟨gr, rfl⟩ := HNx.out.head (by have := HXl.out; omega)
              have HCX := HCX0
              clear HCX0 zx
              have zx := pw_cell_below HW.out HCX.out
              go_wp2_with fail
              go_loopw [17] (fun u17 wk => ∃ k : Nat, u17 = .int .i64 k ∧ k ≤ I + 1 ∧ Hid (Below wo.heap.size wo wk)) (fun u17 _ => I + 2 - (intOf u17).toNat)
              case atStart => exact ⟨0, rfl, by omega, Lib.hid (below_drewN (Below.refl _ _))⟩
              case round =>
                obtain ⟨k, rfl, hk, HK⟩ := hrel
                have HWk := Lib.hid (below_then HW.out HW.out.size HK.out)
                have yx := pw_cell_below HWk.out HCX.out
                have hwkv : Value.int .i64 (wrap64 ((k : Int) + 1)) = Value.int .i64 ((k : Int) + 1) := congrArg (Value.int .i64) (wrap_small (by omega) (by omega))
                by_cases hlt : k < I + 1
                · obtain ⟨u, hu⟩ : ∃ u, X[k]? = some u := ⟨_, List.getElem?_eq_getElem (by have := HXl.out; omega)⟩
                  obtain ⟨y, hy⟩ : ∃ y, X[k + 1]? = some y := ⟨_, List.getElem?_eq_getElem (by have := HXl.out; omega)⟩
                  have hul := HRow.out.rows k u hu
                  have hyl := HRow.out.rows (k + 1) y hy
                  obtain ⟨a, ha⟩ : ∃ a, u[J]? = some a := ⟨_, List.getElem?_eq_getElem (by omega)⟩
                  obtain ⟨b, hb⟩ : ∃ b, y[J]? = some b := ⟨_, List.getElem?_eq_getElem (by omega)⟩
                  have hab := HRow.out.step k u y J a b hu hy ha hb
                  rw [gen_of, kil_of] at hab
                  obtain ⟨Au, du, hcu, hou⟩ := HNx.out.at2 hu
                  obtain ⟨Av, dv, hcv, hov⟩ := HNx.out.at2 hy
                  obtain ⟨gu, rfl, hca⟩ := hou.at2 ha
                  obtain ⟨gv, rfl, hcb⟩ := hov.at2 hb
                  rw [hul] at hcu
                  rw [hyl] at hcv
                  have yu := pw_cell_below HWk.out hcu
                  have yv := pw_cell_below HWk.out hcv
                  have q0 : ((0 : Int) ≤ (k : Int) + 1) = True := eq_true (by omega)
                  have q1 : ((k : Int) + 1 < (I : Int) + 2) = True := eq_true (by omega)
                  have q2 : ((k : Int) + 1).toNat = k + 1 := by omega
                  have q3 : (k : Int) < (I : Int) + 2 := by omega
                  have q4 : (k : Int) + 1 < (I : Int) + 2 := by omega
                  have hm1 := marked_any wr Al cl cs (at_ : Int) (k : Int) (J : Int) true (Kd.C_below HCs.out (below_then HLO6.out HLO6.out.size HWk.out))
                  have hm2 := fun (wz : World) (hz : Below w6.heap.size w6 wz) => marked_any wz Al cl cs (at_ : Int) (k : Int) (J : Int) false (Kd.C_below HCs.out (below_then HLO6.out HLO6.out.size hz))
                  generalize cs.any (markS (at_ : Int) (k : Int) (J : Int) true) = g at *
                  generalize cs.any (markS (at_ : Int) (k : Int) (J : Int) false) = z at *
                  have HM1 := Lib.hid hm1
                  have HM2 := Lib.hid hm2
                  have HU := Lib.hid hcu
                  have HV := Lib.hid hcv
                  have HA := Lib.hid hca
                  have HB := Lib.hid hcb
                  subst hab
                  clear hul hyl hu hy ha hb hou hov hm1 hm2 hcu hcv hca hcb
                  go_wp2_with fail
                  refine HM1.out.mono ?_
                  rintro e wk1 ⟨rfl, hd1⟩
                  have HK1 := Lib.hid (below_then HK.out HK.out.size hd1.below)
                  have HWk1 := Lib.hid (below_then HWk.out HWk.out.size hd1.below)
                  clear hd1 yx yu yv HK HWk HM1
                  go_wp2_with fail
                  refine (HM2.out wk1 HWk1.out).mono ?_
                  rintro e wk2 ⟨rfl, hd2⟩
                  have HK2 := Lib.hid (below_then HK1.out HK1.out.size hd2.below)
                  have HWk2 := Lib.hid (below_then HWk1.out HWk1.out.size hd2.below)
                  clear hd2 HK1 HWk1 HM2
                  have yx := pw_cell_below HWk2.out HCX.out
                  have yu := pw_cell_below HWk2.out HU.out
                  have yv := pw_cell_below HWk2.out HV.out
                  have ya := pw_cell_below HWk2.out HA.out
                  have yb := pw_cell_below HWk2.out HB.out
                  cases g with
                  | true =>
                    go_wp2_with fail
                    go_quiet (fail)
                    go_wp2_with fail
                    go_roundw
                    case rel => exact ⟨k + 1, by go_num, by omega, Lib.hid (below_drewN HK2.out)⟩
                    case measure => first | (simp [intOf]; omega) | (simp [intOf]; done)
                  | false =>
                    cases b with
                    | true =>
                      cases z <;>
                      · go_wp2_with fail
                        go_quiet (fail)
                        go_wp2_with fail
                        go_roundw
                        case rel => exact ⟨k + 1, by go_num, by omega, Lib.hid (below_drewN HK2.out)⟩
                        case measure => first | (simp [intOf]; omega) | (simp [intOf]; done)
                    | false =>
                      go_wp2_with fail
                      go_quiet (fail)
                      go_wp2_with fail
                      go_roundw
                      case rel => exact ⟨k + 1, by go_num, by omega, Lib.hid (below_drewN HK2.out)⟩
                      case measure => first | (simp [intOf]; omega) | (simp [intOf]; done)
                · obtain rfl : k = I + 1 := by omega
                  have q4 : ¬ (((I + 1 : Nat) : Int) + 1 < (I : Int) + 2) := by omega
                  clear hlt hk
                  obtain ⟨u0, hu0⟩ : ∃ u, X[0]? = some u := ⟨_, List.getElem?_eq_getElem (by have := HXl.out; omega)⟩
                  obtain ⟨uE, huE⟩ : ∃ u, X[I + 1]? = some u := ⟨_, List.getElem?_eq_getElem (by have := HXl.out; omega)⟩
                  have hl0 := HRow.out.rows 0 u0 hu0
                  have hlE := HRow.out.rows (I + 1) uE huE
                  obtain ⟨a0, ha0⟩ : ∃ a, u0[J]? = some a := ⟨_, List.getElem?_eq_getElem (by omega)⟩
                  obtain ⟨aE, haE⟩ : ∃ a, uE[J]? = some a := ⟨_, List.getElem?_eq_getElem (by omega)⟩
                  have haEv := HRow.out.last uE J aE (by rw [insN_of hat, ← HIe.out]; exact huE) haE
                  rw [endV_eq] at haEv
                  obtain ⟨Au, du, hcu, hou⟩ := HNx.out.at2 hu0
                  obtain ⟨Av, dv, hcv, hov⟩ := HNx.out.at2 huE
                  obtain ⟨gu, rfl, hca⟩ := hou.at2 ha0
                  obtain ⟨gv, rfl, hcb⟩ := hov.at2 haE
                  rw [hl0] at hcu
                  rw [hlE] at hcv
                  have yu := pw_cell_below HWk.out hcu
                  have ya := pw_cell_below HWk.out hca
                  have HVE := Lib.hid hcv
                  have HBE := Lib.hid hcb
                  have hmem : ∀ q ∈ succI (bksOf l03) at_, 0 ≤ q ∧ q < (l03.length : Int) := fun q hq => by
                    have := mem_succI hq
                    rwa [bksOf_length] at this
                  have htl : (succI (bksOf l03) at_).length ≤ 30 := by
                    have h1 := okTo_le (bksOf l03).length (((bksOf l03)[at_]?.map Bk.to).getD [])
                    rw [rd_T58_get hat] at h1
                    have h2 := ((fewB_at HFEW.out).2 (rd_T58 l03 at_) (by simp [rd_T58, List.getElem?_eq_getElem hat, List.getD_eq_getElem?_getD])).2
                    have h3 : succI (bksOf l03) at_ = okTo (bksOf l03).length (((bksOf l03)[at_]?.map Bk.to).getD []) := rfl
                    rw [h3, rd_T58_get hat]
                    exact Nat.le_trans h1 h2
                  have hrto := fun (wz : World) (hz : Below w6.heap.size w6 wz) => rto_any s p A2 n2 c2 (some ad) c3 l03 at_ wz (Kd.C_below HC.out (below_then HLO6.out HLO6.out.size hz)) hat HFEW.out
                  generalize succI (bksOf l03) at_ = tos at *
                  have HRTO := Lib.hid hrto
                  have HMEM := Lib.hid hmem
                  have HEV := Lib.hid haEv
                  have HO1 : Hid (wr.ownsRow w6.heap.size 4 1 u15 (encs Value.bool need).length (encs Value.bool need)) := Lib.hid (by rw [encs_length]; exact pw_own_below HO.out HK.out)
                  have q5 : (0 : Int) < (I : Int) + 2 := by omega
                  have hn31 : (need.length + 1) * 1 ≤ 140737488355328 := by omega
                  clear hu0 huE hl0 hlE ha0 haE hou hov hcu hcv hca hcb hrto hmem haEv HO hwkv
                  go_wp2_with (first | (at_builtin; refine print_append (w0 := w6) w6.heap.size rfl (.tmp 156) (.tmp 166) 26 4 (.bool false) 1 rfl Try.underlying26 info4 rfl (by decide) u15 (encs Value.bool need) _ rfl rfl rfl HO1.out HWk.out HWk.out.size (by rw [encs_length]; exact hn31) ?_; intro v5 w5 ho5 hb5 hg5 _; have HO5 := Lib.hid ho5; have HB5 := Lib.hid hb5; clear ho5 hb5 hg5; have hbx5 := HBX6.out.below HB5.out hlt6; have e0 := hbx5.cell 0 _ rfl; have e1 := hbx5.cell 1 _ rfl; have e2 := hbx5.cell 2 _ rfl; have e3 := hbx5.cell 3 _ rfl; clear hbx5 yx yu ya HO1 HWk HK))
                  refine (HRTO.out w5 HB5.out).mono ?_
                  rintro e w8 ⟨vt, rfl, hoi, hb8⟩
                  obtain ⟨At, ct, rfl⟩ := hoi.slice
                  have HW8 := Lib.hid (below_then HB5.out HB5.out.size hb8)
                  have HOB8 : Hid (OB w8 w6.heap.size v5 (need ++ [a0])) := Lib.hid (by
                    have h := HO5.out
                    have e1 : encs Value.bool (need ++ [a0]) = encs Value.bool need ++ [Value.bool a0] := by simp [encs]
                    rw [← e1, encs_length] at h
                    exact pw_own_below h hb8)
                  have HOI := Lib.hid hoi
                  clear hb8 hoi HRTO HO5 HB5 e0 e1 e2 e3
                  obtain ⟨A5, c5, _, rfl⟩ : ∃ A c, True ∧ v5 = .slice A (t + 1) c := by
                    obtain ⟨A, c, h1, _, _⟩ := OB.reads HOB8.out
                    have h2 : (need ++ [a0]).length = t + 1 := by simp [hnl]
                    rw [h2] at h1
                    exact ⟨A, c, trivial, h1⟩
                  have yx := pw_cell_below HW8.out HCX.out
                  have yv := pw_cell_below HW8.out HVE.out
                  have yb := pw_cell_below HW8.out HBE.out
                  have q6 : ((0 : Int) ≤ (I : Int) + 1) = True := eq_true (by omega)
                  have q7 : ((I : Int) + 1 < (I : Int) + 2) = True := eq_true (by omega)
                  have q8 : ((I : Int) + 1).toNat = I + 1 := by omega
                  have hw1w : Value.int .i64 (IntKind.i64.wrap ((I : Int) + 2 - 1)) = Value.int .i64 ((I : Int) + 1) := congrArg (Value.int .i64) ((wrapK_small (by omega) (by omega)).trans (by omega))
                  have hw1v : Value.int .i64 (wrap64 ((I : Int) + 2 - 1)) = Value.int .i64 ((I : Int) + 1) := congrArg (Value.int .i64) ((wrap_small (by omega) (by omega)).trans (by omega))
                  go_wp2_with fail
                  go_quiet (fail)
                  have HW9 : Hid (Below w8.heap.size w8 (w8.drewN nq)) := Lib.hid (below_drewN (Below.refl _ _))
                  clear yx yv yb hw1v hw1w q4 q5 q6 q7 q8
                  go_wp2_with fail
                  go_loopw [22, 23] (fun u22 u23 wk => ∃ k : Nat, u22 = .bool ((tos.take k).any fun q => headV (bksOf l03) (chsOf cs) J q.toNat) ∧ u23 = .int .i64 k ∧ k ≤ tos.length ∧ Hid (Below w8.heap.size w8 wk)) (fun _ u23 _ => tos.length - (intOf u23).toNat)
                  case atStart => exact ⟨0, by simp, rfl, Nat.zero_le _, HW9⟩
                  case round =>
                    clear HW9
                    obtain ⟨k, rfl, rfl, hk, HK⟩ := hrel
                    have HWk := Lib.hid (below_then HW8.out HW8.out.size HK.out)
                    by_cases hlt : k < tos.length
                    · obtain ⟨q, hq⟩ : ∃ q, tos[k]? = some q := ⟨_, List.getElem?_eq_getElem hlt⟩
                      have hqr := HMEM.out q (List.mem_of_getElem? hq)
                      obtain ⟨Q, rfl⟩ := Int.eq_ofNat_of_zero_le hqr.1
                      have hQ : Q < l03.length := by omega
                      obtain ⟨Xq, hXq⟩ : ∃ Xq, xsss[Q]? = some Xq := ⟨_, List.getElem?_eq_getElem (by have := HXL.out; omega)⟩
                      have hrq := HROW.out Q Xq hXq
                      have hql := hrq.len
                      obtain ⟨uq, huq⟩ : ∃ u, Xq[0]? = some u := ⟨_, List.getElem?_eq_getElem (by omega)⟩
                      have hlq := hrq.rows 0 uq huq
                      obtain ⟨aq, haq⟩ : ∃ a, uq[J]? = some a := ⟨_, List.getElem?_eq_getElem (by omega)⟩
                      have haqv := hrq.head uq J aq huq haq
                      obtain ⟨gt, rfl, hct⟩ := HOI.out.at2 hq
                      obtain ⟨Aq, dq, hcq, hnq⟩ := HNX.out.at2 hXq
                      obtain ⟨gq, rfl⟩ := hnq.head (by omega)
                      obtain ⟨Ar, dr, hcr, hor⟩ := hnq.at2 huq
                      obtain ⟨gs, rfl, hcs'⟩ := hor.at2 haq
                      rw [hlq] at hcr
                      have yt := pw_cell_below HK.out hct
                      have yq := pw_cell_below HWk.out hcq
                      have yr := pw_cell_below HWk.out hcr
                      have ys := pw_cell_below HWk.out hcs'
                      have q9 : (0 : Int) < (Xq.length : Int) := by omega
                      have q10 : (Q : Int) < (l03.length : Int) := by omega
                      have HTK : Hid ((tos.take (k + 1)).any (fun q => headV (bksOf l03) (chsOf cs) J q.toNat) = ((tos.take k).any (fun q => headV (bksOf l03) (chsOf cs) J q.toNat) || aq)) := Lib.hid (by
                        rw [List.take_succ, hq, List.any_append]
                        simp [haqv])
                      clear hq hqr hXq hrq hql huq hlq haq haqv hct hcq hnq hcr hor hcs'
                      generalize (tos.take k).any (fun q => headV (bksOf l03) (chsOf cs) J q.toNat) = S at *
                      cases S with
                      | true =>
                        go_wp2_with fail
                        go_roundw
                        case rel => exact ⟨k + 1, by rw [HTK.out]; simp, by go_num, by omega, HK⟩
                        case measure => first | (simp [intOf]; omega) | (simp [intOf]; done)
                      | false =>
                        go_wp2_with fail
                        go_roundw
                        case rel => exact ⟨k + 1, by rw [HTK.out]; simp, by go_num, by omega, HK⟩
                        case measure => first | (simp [intOf]; omega) | (simp [intOf]; done)
                    · obtain rfl : k = tos.length := by omega
                      rw [List.take_length, ← HEV.out]
                      have hwtv : Value.int .i64 (wrap64 ((t : Int) + 1)) = Value.int .i64 ((t : Int) + 1) := congrArg (Value.int .i64) (wrap_small (by omega) (by omega))
                      clear hlt hk
                      by_cases m1 : t = way.length
                      · have m1' : ((t : Int) == (way.length : Int)) = true := by rw [beq_iff_eq]; omega
                        go_wp2_with fail
                        go_ret
                        exact ⟨rfl, below_then HLO6.out HLO6.out.size HWk.out⟩
                      · have m1' : ((t : Int) == (way.length : Int)) = false := by
                          rw [beq_eq_false_iff_ne]; omega
                        by_cases m2 : tos.length = 0
                        · have m2' : ((tos.length : Int) == 0) = true := by simpa using m2
                          go_wp2_with fail
                          go_ret
                          exact ⟨rfl, below_then HLO6.out HLO6.out.size HWk.out⟩
                        · have m2' : ((tos.length : Int) == 0) = false := by
                            rw [beq_eq_false_iff_ne]; omega
                          obtain ⟨a, hwa⟩ : ∃ a, way[t]? = some a := ⟨_, List.getElem?_eq_getElem (by omega)⟩
                          obtain ⟨az, haz, hzc⟩ := Kd.at_int (Kd.C_below HWY.out (below_then HLO6.out HLO6.out.size HWk.out)) (t : Int) (by omega) (by omega)
                          rw [rd_nat, Int.toNat_natCast, show way.getD t 0 = a by rw [List.getD_eq_getElem?_getD, hwa]; rfl] at hzc
                          subst haz
                          obtain ⟨m, hm, hturn⟩ := turn_in a tos.length (by omega) htl
                          have hturnv := congrArg (Value.int .i64) hturn
                          clear hturn
                          obtain ⟨q, hq⟩ : ∃ q, tos[m]? = some q := ⟨_, List.getElem?_eq_getElem hm⟩
                          have hqr := HMEM.out q (List.mem_of_getElem? hq)
                          obtain ⟨Q, rfl⟩ := Int.eq_ofNat_of_zero_le hqr.1
                          obtain ⟨gt, rfl, hct⟩ := HOI.out.at2 hq
                          have yt := pw_cell_below HK.out hct
                          have m3 : ((tos.length : Int) = 0) = False := eq_false (by omega)
                          have m4 : (t : Int) < (way.length : Int) := by omega
                          have m5 : (m : Int) < (tos.length : Int) := by omega
                          clear hwa hct hq
                          go_wp2_with fail
                          go_roundw
                          case rel => exact ⟨Q, t + 1, need ++ [a0], rfl, by go_num, by omega, by omega, by simp [hnl], Lib.hid (pw_own_below HOB8.out HK.out), HWk⟩
                          case measure => first | (simp [intOf]; omega) | (simp [intOf]; done)
end Go.Proofs.Ythgnbeeobhfeaaa.T
end
