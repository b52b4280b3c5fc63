/- The walk of ParseBlanks. -/
import Derived.Test.YtjoiflokekebkaaGreatDoorM7
import Derived.Test.YtjoiflokekebkaaGreatDoorM8
import Derived.Test.YtjoiflokekebkaaGreatDoorM9
import Derived.Test.YtjoiflokekebkaaGreatDoorM13
import Derived.Maps.AppendAt
set_option linter.all false
namespace Go.Proofs.YtjoiflokekebkaaGreatDoor
open Go.RowKit

theorem Tryz.infoInt : (Tryz.prog.info? 3).map (fun i => (i.zero, i.size, i.bytes)) = some (some (.int .i64 0), 1, 8) := by kernel_rfl
theorem src_form {W : World} {cs : List Value} {x : Src} (h : Sees W cs x.d) : ∃ A1 c1 A2 c2 A3 c3, cs = [.slice A1 x.ss.length c1, .slice A2 x.es.length c2, .slice A3 x.fs.length c3] := by
  obtain ⟨u, v, z, rfl, hu, hv, hz⟩ := Src.open h
  obtain ⟨A1, c1, rfl, _⟩ := hu.formOf
  obtain ⟨A2, c2, rfl, _⟩ := hv.formOf
  obtain ⟨A3, c3, rfl, _⟩ := hz.formOf
  exact ⟨A1, c1, A2, c2, A3, c3, rfl⟩
def ints (l : List Int) : List Value := l.map (Value.int .i64)
theorem blank_get {l : List Tk} {i : Nat} {t : Tk} {n : Nat} (h : l[i]? = some t) : (blankAt (l.drop i) n) = ((n : Int) + 1) :: blankAt (l.drop (i + 1)) (n + 1 + t.s.size) := by
  obtain ⟨hi, he⟩ := List.getElem?_eq_some_iff.1 h
  rw [List.drop_eq_getElem_cons hi, he, blankAt]
theorem tail_get {l : List Tk} {i : Nat} {t : Tk} (acc : ByteArray) (h : l[i]? = some t) : acc ++ tailT (l.drop i) = acc ++ nlB ++ t.s ++ tailT (l.drop (i + 1)) := by
  obtain ⟨hi, he⟩ := List.getElem?_eq_some_iff.1 h
  rw [List.drop_eq_getElem_cons hi, he, tailT_cons]
/-- The text that is made, and where its tokens stand. -/
structure Bl (l : List Tk) (i : Nat) (acc : ByteArray) : Prop where
  txt : tailT l = acc ++ tailT (l.drop i)
  at_ : blankAt l 0 = (blankAt l 0).take i ++ blankAt (l.drop i) acc.size
theorem Bl.start (l : List Tk) : Bl l 0 ⟨#[]⟩ := ⟨by rw [List.drop_zero]; exact ByteArray.empty_append.symm, by simp; rfl⟩
theorem Bl.step {l : List Tk} {i : Nat} {acc : ByteArray} (h : Bl l i acc) {t : Tk} (ht : l[i]? = some t) : Bl l (i + 1) (acc ++ nlB ++ t.s) ∧ (blankAt l 0).take (i + 1) = (blankAt l 0).take i ++ [(acc.size : Int) + 1] := by
  have hz : (acc ++ nlB ++ t.s).size = acc.size + 1 + t.s.size := by rw [ByteArray.size_append, ByteArray.size_append]; rfl
  have hi : i < l.length := (List.getElem?_eq_some_iff.1 ht).1
  have h2 := h.at_
  rw [blank_get ht] at h2
  have hlen : ((blankAt l 0).take i).length = i := by rw [List.length_take, blankAt_length]; omega
  have e : (blankAt l 0).take (i + 1) = (blankAt l 0).take i ++ [(acc.size : Int) + 1] := by
    have h3 : (blankAt l 0).take (i + 1) = ((blankAt l 0).take i ++ (((acc.size : Int) + 1) :: blankAt (l.drop (i + 1)) (acc.size + 1 + t.s.size))).take (i + 1) := by rw [← h2]
    rw [h3, List.take_append, hlen, List.take_of_length_le (by omega)]
    simp
  refine ⟨⟨by rw [h.txt, tail_get acc ht], ?_⟩, e⟩
  rw [e, hz]
  conv => lhs; rw [h2]
  simp
theorem tail_small {s : ByteArray} {l : List Tk} (hs : s.size ≤ 3000) (hl : lexB s = .ok l) : (tailT l).size ≤ 6001 := by
  obtain ⟨hT, hsz⟩ := lexB_toks hl
  have hlf : lexFrom s 0 = .ok l := by rw [lexB, if_neg (by omega)] at hl; exact hl
  have := (blank_lex s _ 0 (Nat.le_refl _) (Nat.zero_le _) l hlf ByteArray.empty).2
  omega
set_option maxRecDepth 100000 in
set_option maxHeartbeats 8000000 in
theorem parseBlanks_walk (s : ByteArray) (hs : s.size ≤ 9000000000000000000) (W : World) (hv : HasErr W) : Calls Tryz.prog 7 #[.string s] W fun e W' => e = .returned (.bool true) ∧ Below W.heap.size W W' := by
  have HV := Lib.hid hv
  clear hv
  go_enter Tryz.func7, Tryz.ntmps7
  go_wp2_with fail
  refine (works_any HV.out).mono ?_
  rintro e w1 ⟨rfl, hb⟩
  have HB := Lib.hid hb
  have HV1 := Lib.hid (HV.out.below hb)
  clear hb HV
  by_cases h3 : 3000 < s.size
  · have h3i : (s.size : Int) > 3000 := by omega
    go_wp2_with fail
    go_ret
    exact ⟨rfl, HB.out⟩
  have h3i : ¬ (s.size : Int) > 3000 := by omega
  go_wp2_with fail
  refine (lex_any s hs w1 HV1.out).mono ?_
  rintro e w2 ⟨hlex, hb⟩
  have HV2 := Lib.hid (HV1.out.below hb)
  have HB2 := Lib.hid (HB.out.trans (hb.mono HB.out.size))
  clear hb HV1 HB
  obtain ⟨er, at_, hp, rfl⟩ | ⟨l, v, hp, ho, hlen, rfl⟩ := hlex
  · have hne : (er != 0) = true := bne_iff_ne.2 (lexB_err hp)
    clear hp
    go_wp2_with fail
    go_ret
    exact ⟨rfl, HB2.out⟩
  have hsm := tail_small (by omega) hp
  have hbl := blanks_any (by omega) hp
  have HO := Lib.hid ho
  have HL := Lib.hid hp
  have HBL := Lib.hid hbl
  have HSM := Lib.hid hsm
  clear ho hp hbl hsm
  obtain ⟨A, c, rfl⟩ := row_slice HO.out
  have OW0 : Hid (w2.ownsRow w2.heap.size 3 1 (.slice none 0 0) 0 (ints ((blankAt l 0).take 0))) := Lib.hid (by simpa [ints] using w2.ownsRow_nil w2.heap.size 3 1)
  have BL0 := Lib.hid (Bl.start l)
  have BB0 := Lib.hid (Below.refl w2.heap.size w2)
  go_wp2_with fail
  go_loopw [7, 8, 9] (fun v7 v8 v9 wr => ∃ (i : Nat) (acc : ByteArray) (A8 : Option Addr) (c8 : Nat), v7 = .string acc ∧ v8 = .slice A8 i c8 ∧ v9 = .int .i64 i ∧ i ≤ l.length ∧ Hid (Bl l i acc) ∧ Hid (wr.ownsRow w2.heap.size 3 1 (.slice A8 i c8) i (ints ((blankAt l 0).take i))) ∧ Hid (Below w2.heap.size w2 wr)) (fun _ _ v9 _ => l.length - (intOf v9).toNat)
  case atStart => exact ⟨0, ⟨#[]⟩, none, 0, rfl, rfl, rfl, Nat.zero_le _, BL0, OW0, BB0⟩
  case round =>
    obtain ⟨i, acc, A8, c8, rfl, rfl, rfl, hi, hbl, how, hb⟩ := hrel
    clear BL0 OW0 BB0
    have hacc : acc.size ≤ 6001 := by
      have h1 := HSM.out
      rw [hbl.out.txt, ByteArray.size_append] at h1
      omega
    by_cases hlt : i < l.length
    · have htl : (i : Int) < (l.length : Int) := by omega
      obtain ⟨t, ht⟩ : ∃ t, l[i]? = some t := ⟨_, List.getElem?_eq_getElem hlt⟩
      obtain ⟨hbl2, htk⟩ := hbl.out.step ht
      have hacc2 : acc.size + 1 + t.s.size ≤ 6001 := by
        have h1 := HSM.out
        have h2 := hbl2.txt
        rw [h2, ByteArray.size_append, ByteArray.size_append, ByteArray.size_append] at h1
        have e1 : nlB.size = 1 := rfl
        omega
      obtain ⟨g, rfl, _, hg, _, hc⟩ := row_at (row_below HO.out hb.out) (by omega)
      obtain ⟨t0, t1, t2, t3⟩ := tcells_at l i t ht
      have c1 := hc _ _ t1
      have BL2 := Lib.hid hbl2
      have TK := Lib.hid htk
      clear hc t0 t1 t2 t3 ht hbl2 htk
      go_upto_region 15 with fail
      have hin : ((blankAt l 0).take i).length = i := by rw [List.length_take, blankAt_length]; omega
      have OWb : Hid (∀ o, (wr.alloc o).ownsRow w2.heap.size 3 1 (.slice A8 i c8) i (ints ((blankAt l 0).take i))) := Lib.hid (fun o => row_below how.out (bel_box wr o))
      obtain ⟨i0, hi0, hz0, hz1, hz2⟩ := info_parts Tryz.infoInt
      have hlw := hb.out.size
      go_upto_region 16 with (first
        | (at_builtin; refine wpList_append_own_at _ rfl (.tmp 41) (.tmp 44) 70 rfl w2.heap.size 3 i0 _ 1 8 Tryz.underlying70 hi0 hz0 hz1 hz2 rfl (by decide) _ i (ints ((blankAt l 0).take i)) rfl (OWb.out _) _ 1 1 [.int .i64 ((acc.size : Int) + 1)] rfl rfl ?_ ?_ ?_ ?_ ?_ ?_
           (exact cell_row (by simp) _ _)
           (intro u hu; simp at hu; rcases hu with rfl; rfl)
           (simp only [maxLen]; omega)
           omega
           (simp <;> omega)
           (intro v4 w4 own4 grow4 nil4 at4)))
      have HB4 := Lib.hid (bel_to hb.out hb.out.size (bel_box wr (.cells #[.int .i64 ((acc.size : Int) + 1)] 3)))
      have HB5 : Hid (Below w2.heap.size w2 w4) := Lib.hid (HB4.out.trans ⟨grow4.os, grow4.tape, grow4.output, grow4.size, fun k hk => grow4.block k (Nat.lt_of_lt_of_le hk HB4.out.size) (fun e => by have := (row_lt (OWb.out (.cells #[.int .i64 ((acc.size : Int) + 1)] 3)) k e.symm).1; omega)⟩)
      obtain ⟨A9, c9, rfl⟩ := row_slice own4
      have OW4 : Hid (w4.ownsRow w2.heap.size 3 1 (.slice A9 (i + 1) c9) (i + 1) (ints ((blankAt l 0).take (i + 1)))) := Lib.hid (by rw [TK.out]; simpa [ints] using own4)
      have d1 : w4.cell? ⟨g, i * 4 + 1, none⟩ = some (.string t.s) := (HB5.out.cell (p := ⟨g, i * 4 + 1, none⟩) (by have := (row_lt HO.out g rfl).2.choose_spec; exact blk_lt this)).trans ((hb.out.cell (p := ⟨g, i * 4 + 1, none⟩) (by have := (row_lt HO.out g rfl).2.choose_spec; exact blk_lt this)).symm.trans c1)
      clear own4 grow4 nil4 at4 HB4 OWb how c1
      have hz1 : (acc ++ nlB).size = acc.size + 1 := by rw [ByteArray.size_append]; rfl
      have hz2 : ((acc ++ nlB).size : Int) + (t.s.size : Int) ≤ 9223372036854775807 := by rw [hz1]; omega
      go_wp2_with fail
      go_roundw
      case rel => exact ⟨i + 1, acc ++ nlB ++ t.s, A9, c9, rfl, rfl, by go_num, by omega, BL2, OW4, HB5⟩
      case measure => simp [intOf]; omega
    · obtain rfl : i = l.length := by omega
      have htx : tailT l = acc := by
        have h1 := hbl.out.txt
        rw [List.drop_length, tailT] at h1
        rw [h1]; exact ByteArray.append_empty
      subst htx
      rw [show (blankAt l 0).take l.length = blankAt l 0 from List.take_of_length_le (by rw [blankAt_length]; exact Nat.le_refl _)] at how
      have OW := Lib.hid how.out
      have HBr := Lib.hid (bel_to HB2.out HB2.out.size hb.out)
      have HVr := Lib.hid (HV2.out.below hb.out)
      have HOr := Lib.hid (row_below HO.out hb.out)
      clear how hb HB2 HV2 HO hlt hbl
      generalize wr = w3 at *
      go_wp2_with fail
      refine (parse_any s hs w3 HVr.out).mono ?_
      rintro e w4 ⟨hpe, hb⟩
      have HB4 := Lib.hid (bel_to HBr.out HBr.out.size hb)
      have HV4 := Lib.hid (HVr.out.below hb)
      have HO4 := Lib.hid (row_below HOr.out hb)
      have OW4 := Lib.hid (row_below OW.out hb)
      clear hb HBr HVr HOr OW
      rcases HBL.out with ⟨x, y, hpx, hpy, hst⟩ | ⟨f, i, k, j, t, hpx, hpy, hj1, hj2, hj3⟩
      · rcases hpe with ⟨er2, at2, hq, rfl⟩ | ⟨x2, cs, hq, rfl, hrd⟩
        · rw [hpx] at hq; cases hq
        rw [hpx] at hq
        injection hq with hq
        subst hq
        have hsx := Sees.of_rds hrd
        obtain ⟨A1, c1, A2, c2, A3, c3, rfl⟩ := src_form hsx
        have hb := bel_box w4 (.cells #[.slice A1 x.ss.length c1, .slice A2 x.es.length c2, .slice A3 x.fs.length c3] 26)
        have HSX := Lib.hid (hsx.below hb)
        have BX : Hid (Bx 26 (w4.alloc (.cells #[.slice A1 x.ss.length c1, .slice A2 x.es.length c2, .slice A3 x.fs.length c3] 26)) w4.heap.size #[.slice A1 x.ss.length c1, .slice A2 x.es.length c2, .slice A3 x.fs.length c3]) := Lib.hid (Bx.newAt rfl)
        have HB5 := Lib.hid (bel_to HB4.out HB4.out.size hb)
        have HV5 := Lib.hid (HV4.out.below hb)
        have HPY := Lib.hid hpy
        have HST := Lib.hid hst
        clear hrd hsx hb HB4 HV4 hpx hpy hst HBL HL
        go_wp2_with fail
        generalize w4.alloc (.cells #[.slice A1 x.ss.length c1, .slice A2 x.es.length c2, .slice A3 x.fs.length c3] 26) = w5 at *
        generalize w4.heap.size = z at *
        refine (parse_any (tailT l) (by omega) w5 HV5.out).mono ?_
        rintro e w6 ⟨⟨er2, at2, hq, rfl⟩ | ⟨x2, cs, hq, rfl, hrd⟩, hb⟩
        · rw [HPY.out] at hq; cases hq
        rw [HPY.out] at hq
        injection hq with hq
        subst hq
        have hsy := Sees.of_rds hrd
        obtain ⟨A4, c4, A5, c5, A6, c6, rfl⟩ := src_form hsy
        have hb2 := bel_box w6 (.cells #[.slice A4 y.ss.length c4, .slice A5 y.es.length c5, .slice A6 y.fs.length c6] 26)
        have HSY := Lib.hid (hsy.below hb2)
        have HSX7 := Lib.hid ((HSX.out.below hb).below hb2)
        have BX7 := Lib.hid ((BX.out.below hb).below hb2)
        have BY7 : Hid (Bx 26 (w6.alloc (.cells #[.slice A4 y.ss.length c4, .slice A5 y.es.length c5, .slice A6 y.fs.length c6] 26)) w6.heap.size #[.slice A4 y.ss.length c4, .slice A5 y.es.length c5, .slice A6 y.fs.length c6]) := Lib.hid (Bx.newAt rfl)
        have HB6 := Lib.hid (bel_to HB5.out HB5.out.size hb)
        have HB7 := Lib.hid (bel_to HB6.out HB6.out.size hb2)
        clear hrd hsy hb hb2 HB5 HB6 HV5 HSX BX
        go_upto_region 19 with fail
        generalize w6.alloc (.cells #[.slice A4 y.ss.length c4, .slice A5 y.es.length c5, .slice A6 y.fs.length c6] 26) = w7 at *
        generalize w6.heap.size = z2 at *
        obtain ⟨lX, cX, fX⟩ := BX7.out.see
        obtain ⟨lY, cY, fY⟩ := BY7.out.see
        go_wp2_with fail
        refine (same_any HST.out [.slice A1 x.ss.length c1, .slice A2 x.es.length c2, .slice A3 x.fs.length c3] [.slice A4 y.ss.length c4, .slice A5 y.es.length c5, .slice A6 y.fs.length c6] w7 HSX7.out HSY.out).mono ?_
        rintro e w8 ⟨rfl, hb⟩
        have HB8 := Lib.hid (bel_to HB7.out HB7.out.size hb)
        clear hb
        go_wp2_with fail
        go_ret
        exact ⟨rfl, HB8.out⟩
      · rcases hpe with ⟨er2, at2, hq, rfl⟩ | ⟨x2, cs, hq, rfl, hrd⟩
        rotate_left
        · rw [hpx] at hq; cases hq
        have hne : (f == 0) = false := beq_eq_false_iff_ne.2 (parseB_err hpx)
        rw [hpx] at hq
        injection hq with hq
        injection hq with e1 e2
        subst e1 e2
        have hb := bel_box w4 (.cells #[.slice none 0 0, .slice none 0 0, .slice none 0 0] 26)
        have HB5 := Lib.hid (bel_to HB4.out HB4.out.size hb)
        have HV5 := Lib.hid (HV4.out.below hb)
        have HO5 := Lib.hid (row_below HO4.out hb)
        have OW5 := Lib.hid (row_below OW4.out hb)
        have HPY := Lib.hid hpy
        have HJ1 := Lib.hid hj1
        have HJ2 := Lib.hid hj2
        have HJ3 := Lib.hid hj3
        clear hb HB4 HV4 HO4 OW4 hpx hpy HBL HL hj1 hj2 hj3
        go_wp2_with fail
        generalize w4.alloc (.cells #[.slice none 0 0, .slice none 0 0, .slice none 0 0] 26) = w5 at *
        refine (parse_any (tailT l) (by omega) w5 HV5.out).mono ?_
        rintro e w6 ⟨⟨er2, at2, hq, rfl⟩ | ⟨x2, cs, hq, rfl, hrd⟩, hb⟩
        rotate_left
        · rw [HPY.out] at hq; cases hq
        rw [HPY.out] at hq
        injection hq with hq
        injection hq with e1 e2
        subst e1 e2
        have hb2 := bel_box w6 (.cells #[.slice none 0 0, .slice none 0 0, .slice none 0 0] 26)
        have HB6 := Lib.hid (bel_to HB5.out HB5.out.size hb)
        have HB7 := Lib.hid (bel_to HB6.out HB6.out.size hb2)
        have HO7 := Lib.hid (row_below (row_below HO5.out hb) hb2)
        have OW7 := Lib.hid (row_below (row_below OW5.out hb) hb2)
        clear hb hb2 HB5 HB6 HV5 HO5 OW5
        go_wp2_with fail
        generalize w6.alloc (.cells #[.slice none 0 0, .slice none 0 0, .slice none 0 0] 26) = w7 at *
        have hjl : j < l.length := (List.getElem?_eq_some_iff.1 HJ1.out).1
        go_loopw [16] (fun v16 wr => ∃ (q : Nat), v16 = .int .i64 q ∧ q ≤ j ∧ wr = w7) (fun v16 _ => l.length - (intOf v16).toNat)
        case atStart => exact ⟨0, rfl, Nat.zero_le _, rfl⟩
        case round =>
          obtain ⟨q, rfl, hq, hwr⟩ := hrel
          subst hwr
          have hql : q < l.length := by omega
          have hqi : (q : Int) < (l.length : Int) := by omega
          obtain ⟨t2, ht2⟩ : ∃ t, l[q]? = some t := ⟨_, List.getElem?_eq_getElem hql⟩
          obtain ⟨a2, ha2⟩ : ∃ a, (blankAt l 0)[q]? = some a := ⟨_, List.getElem?_eq_getElem (by rw [blankAt_length]; exact hql)⟩
          obtain ⟨g, hA, _, hg, _, hc⟩ := row_at HO7.out (by omega)
          subst hA
          obtain ⟨g2, hA2, _, hg2, _, hc2⟩ := row_at OW7.out (by omega)
          subst hA2
          obtain ⟨k0, k1, k2, k3⟩ := tcells_at l q t2 ht2
          have c3 := hc _ _ k3
          have c4 := hc2 q (.int .i64 a2) (by simp [ints, ha2])
          have hnext : (q = j → t2.at_ = t.at_ ∧ a2 = k) := fun e => by
            subst e
            have h1 := HJ1.out
            rw [ht2] at h1
            injection h1 with h1
            have h3 := HJ3.out
            rw [ha2] at h3
            injection h3 with h3
            exact ⟨by rw [h1], h3⟩
          have HNX := Lib.hid hnext
          clear hc hc2 k0 k1 k2 k3 ht2 ha2 hnext
          by_cases h1 : t2.at_ = i
          · by_cases h2 : a2 = k
            · go_wp2_with fail
              go_ret
              exact ⟨rfl, HB7.out⟩
            · have hqj : q ≠ j := fun e => h2 (HNX.out e).2
              by_cases h4 : (q : Int) + 1 = (l.length : Int)
              · omega
              · go_wp2_with fail
                go_roundw
                case rel => exact ⟨q + 1, by go_num, by omega, by first | rfl | trivial⟩
                case measure => simp [intOf]; omega
          · have hqj : q ≠ j := fun e => h1 ((HNX.out e).1.trans HJ2.out)
            go_wp2_with fail
            go_roundw
            case rel => exact ⟨q + 1, by go_num, by omega, by first | rfl | trivial⟩
            case measure => simp [intOf]; omega
end Go.Proofs.YtjoiflokekebkaaGreatDoor
