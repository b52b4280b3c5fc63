/- The walk of ParsePlaces. -/
import Derived.Test.YtjoiflokekebkaaDoorR23
import Derived.Test.YtjoiflokekebkaaDoorP4
set_option linter.all false
namespace Go.Proofs.YtjoiflokekebkaaDoor
open Go.RowKit

theorem Bx.dn {t : TypeId} {w w' : World} {x : Nat} {cs : Array Value} (h : Bx t w x cs) (hd : Dn w w') : Bx t w' x cs := by obtain ⟨k, rfl⟩ := hd; exact h
set_option maxRecDepth 100000 in
set_option maxHeartbeats 8000000 in
theorem parsePlaces_walk (s : ByteArray) (hs : s.size ≤ 9000000000000000000) (W : World) (hv : HasErr W) : Calls Tryd.prog 3 #[.string s] W fun e W' => e = .returned (.bool true) ∧ Below W.heap.size W W' := by
  have HV := Lib.hid hv
  clear hv
  go_enter Tryd.func3, Tryd.ntmps3
  go_wp2_with fail
  refine (works_any HV.out).mono ?_
  rintro e w1 ⟨rfl, hb⟩
  have HB := Lib.hid hb
  have HV1 := Lib.hid (HV.out.below hb)
  clear hb HV
  by_cases h3 : 3000 < s.size
  · have h3i : (s.size : Int) > 3000 := by omega
    go_wp2_with fail
    go_ret
    exact ⟨rfl, HB.out⟩
  have h3i : ¬ (s.size : Int) > 3000 := by omega
  go_wp2_with fail
  refine (lex_any s hs w1 HV1.out).mono ?_
  rintro e w2 ⟨hlex, hb⟩
  have HV2 := Lib.hid (HV1.out.below hb)
  have HB2 := Lib.hid (HB.out.trans (hb.mono HB.out.size))
  clear hb HV1 HB
  obtain ⟨er, at_, hp, rfl⟩ | ⟨l, v, hp, ho, hlen, rfl⟩ := hlex
  · have hne : (er != 0) = true := bne_iff_ne.2 (lexB_err hp)
    have HL := Lib.hid hp
    clear hp
    go_wp2_with fail
    refine (parse_any s hs w2 HV2.out).mono ?_
    rintro e w3 ⟨⟨er2, at2, hq, rfl⟩ | ⟨x, cs, hq, rfl, hrd⟩, hb⟩
    · have HB3 := Lib.hid (HB2.out.trans (hb.mono HB2.out.size))
      have HB4 := Lib.hid (HB3.out.alloc HB3.out.size (.cells #[.slice none 0 0, .slice none 0 0, .slice none 0 0] 31))
      clear hb hq HB3
      go_wp2_with fail
      go_ret
      exact ⟨rfl, HB4.out⟩
    · rw [parseB, HL.out] at hq
      cases hq
  · have HO := Lib.hid ho
    have HL := Lib.hid hp
    clear ho hp
    go_wp2_with fail
    refine (parse_any s hs w2 HV2.out).mono ?_
    rintro e w3 ⟨⟨er2, at2, hq, rfl⟩ | ⟨x, cs, hq, rfl, hrd⟩, hb⟩
    · have hne : (er2 != 0) = true := bne_iff_ne.2 (parseB_err hq)
      have HB3 := Lib.hid (HB2.out.trans (hb.mono HB2.out.size))
      have HB4 := Lib.hid (HB3.out.alloc HB3.out.size (.cells #[.slice none 0 0, .slice none 0 0, .slice none 0 0] 31))
      clear hb hq HB3
      go_wp2_with fail
      go_ret
      exact ⟨rfl, HB4.out⟩
    · have hgood := places_good HL.out hq
      have hse := Sees.of_rds hrd
      obtain ⟨u1, u2, u3, rfl, s1, s2, s3⟩ := Src.open hse
      obtain ⟨A1, c1, rfl, hl1, hm1⟩ := s1.formOf
      obtain ⟨A2, c2, rfl, hl2, hm2⟩ := s2.formOf
      obtain ⟨A3, c3, rfl, hl3, hm3⟩ := s3.formOf
      have HB3 := Lib.hid (HB2.out.trans (hb.mono HB2.out.size))
      have hbz := bel_box w3 (.cells #[.slice A1 x.ss.length c1, .slice A2 x.es.length c2, .slice A3 x.fs.length c3] 31)
      have HB4 := Lib.hid (bel_to HB3.out HB3.out.size hbz)
      have S1 := Lib.hid (s1.bel hbz)
      have S2 := Lib.hid (s2.bel hbz)
      have S3 := Lib.hid (s3.bel hbz)
      have HO4 := Lib.hid (row_below (row_below HO.out hb) hbz)
      have X4 : Hid (Bx 31 (w3.alloc (.cells #[.slice A1 x.ss.length c1, .slice A2 x.es.length c2, .slice A3 x.fs.length c3] 31)) w3.heap.size #[.slice A1 x.ss.length c1, .slice A2 x.es.length c2, .slice A3 x.fs.length c3]) := Lib.hid (Bx.newAt rfl)
      have HG := Lib.hid hgood
      have hn1 : x.ss.length ≤ 9223372036854775807 := by omega
      have hn2 : x.es.length ≤ 9223372036854775807 := by omega
      have hn3 : x.fs.length ≤ 9223372036854775807 := by omega
      clear hb hq hrd hse s1 s2 s3 hbz HB3 HO HV2 HB2 HL hgood hm1 hm2 hm3 hl1 hl2 hl3
      go_wp2_with fail
      generalize (w3.alloc (.cells #[.slice A1 x.ss.length c1, .slice A2 x.es.length c2, .slice A3 x.fs.length c3] 31)) = w4 at *
      generalize w3.heap.size = z at *
      go_loopw [10] (fun v wr => ∃ i : Nat, v = .int .i64 i ∧ i ≤ x.fs.length ∧ Hid (Dn w4 wr)) (fun v _ => x.fs.length - (intOf v).toNat)
      case atStart => exact ⟨0, rfl, Nat.zero_le _, Lib.hid (Dn.refl _)⟩
      case round =>
        obtain ⟨i, rfl, hi, hd⟩ := hrel
        obtain ⟨lX, cX, fX⟩ := (X4.out.dn hd.out).see
        by_cases hlt : i < x.fs.length
        · have htl : (i : Int) < (x.fs.length : Int) := by omega
          obtain ⟨f, hf⟩ : ∃ f, x.fs[i]? = some f := ⟨_, List.getElem?_eq_getElem hlt⟩
          have hfg := HG.out.2.2 f (List.mem_of_getElem? hf)
          simp only [fnAt, Bool.and_eq_true] at hfg
          obtain ⟨b, o, x0, x1, x2, x3, rfl, hse, _, _, k2, k3⟩ := (S3.out.bel hd.out.below).at4 hf (Fnc.d_len f)
          obtain ⟨ua, ub, he, _, sb⟩ := Fnc.open hse
          simp only [List.cons.injEq, and_true] at he
          obtain ⟨rfl, rfl, rfl, rfl⟩ := he
          have CB : Hid (∀ n, Calls Tryd.prog 8 #[v, .int .i64 f.at_, .string ⟨#[99, 111]⟩] (wr.drewN n) fun e w' => e = .returned (.bool true) ∧ w' = wr.drewN n) := Lib.hid (fun n => (begins_any l v f.at_ ⟨#[99, 111]⟩ _ _ (row_drewN (row_dn HO4.out hd.out) n)).mono (fun e w' h => ⟨by rw [h.1, hfg.1], h.2⟩))
          have CR : Hid (∀ n, Calls Tryd.prog 9 #[v, x2, .int .i64 f.at_] (wr.drewN n) fun e w' => e = .returned (.bool true) ∧ ∃ k, w' = (wr.drewN n).drewN k) := Lib.hid (fun n => (rising_any f.b l v x2 f.at_ _ _ (row_drewN (row_dn HO4.out hd.out) n) (sb.drewN n)).mono (fun e w' h => ⟨by rw [h.1, hfg.2], h.2⟩))
          clear hfg hf hse sb
          go_wp2_with fail
          go_quiet (first | (go_at_call 8; exact Calls.quiet_of_same (CB.out _)) | (go_at_call 9; exact Calls.quiet_of (CR.out _)))
          have hd2 := Lib.hid (hd.out.more nq)
          clear CB CR lX cX fX k2 k3 hd
          go_wp2_with fail
          go_roundw
          case rel => exact ⟨i + 1, by go_num, by omega, hd2⟩
          case measure => simp [intOf]; omega
        · obtain rfl : i = x.fs.length := by omega
          clear hlt
          have HD1 := Lib.hid hd.out
          clear hd lX cX fX
          generalize wr = w5 at *
          obtain ⟨lX, cX, fX⟩ := (X4.out.dn HD1.out).see
          go_wp2_with fail
          go_loopw [11] (fun v wr => ∃ i : Nat, v = .int .i64 i ∧ i ≤ x.ss.length ∧ Hid (Dn w4 wr)) (fun v _ => x.ss.length - (intOf v).toNat)
          case atStart => exact ⟨0, rfl, Nat.zero_le _, HD1⟩
          case round =>
            obtain ⟨i, rfl, hi, hd⟩ := hrel
            clear lX cX fX
            obtain ⟨lX, cX, fX⟩ := (X4.out.dn hd.out).see
            by_cases hlt : i < x.ss.length
            · have htl : (i : Int) < (x.ss.length : Int) := by omega
              obtain ⟨f, hf⟩ : ∃ f, x.ss[i]? = some f := ⟨_, List.getElem?_eq_getElem hlt⟩
              have hfg := HG.out.1 f (List.mem_of_getElem? hf)
              rw [structAt] at hfg
              obtain ⟨b, o, x0, x1, x2, x3, rfl, hse, _, k1, _, k3⟩ := (S1.out.bel hd.out.below).at4 hf (Str.d_len f)
              obtain ⟨ua, he, sb⟩ := Str.open hse
              simp only [List.cons.injEq, and_true] at he
              obtain ⟨rfl, rfl, rfl, rfl⟩ := he
              cases hdr : f.drop with
              | true =>
                rw [hdr, if_pos rfl] at hfg
                rw [hdr] at k1
                have CB : Hid (Calls Tryd.prog 8 #[v, .int .i64 f.at_, .string ⟨#[100, 114, 111, 112]⟩] wr fun e w' => e = .returned (.bool true) ∧ w' = wr) := Lib.hid ((begins_any l v f.at_ ⟨#[100, 114, 111, 112]⟩ _ _ (row_dn HO4.out hd.out)).mono (fun e w' h => ⟨by rw [h.1, hfg], h.2⟩))
                clear hfg hf hse sb hdr
                go_wp2_with fail
                refine CB.out.mono ?_
                rintro e w6 ⟨rfl, hw6⟩
                subst hw6
                clear CB
                go_wp2_with fail
                go_roundw
                case rel => exact ⟨i + 1, by go_num, by omega, hd⟩
                case measure => simp [intOf]; omega
              | false =>
                rw [hdr, if_neg (by decide)] at hfg
                rw [hdr] at k1
                have CB : Hid (Calls Tryd.prog 8 #[v, .int .i64 f.at_, .string ⟨#[115, 116, 114, 117, 99, 116]⟩] wr fun e w' => e = .returned (.bool true) ∧ w' = wr) := Lib.hid ((begins_any l v f.at_ ⟨#[115, 116, 114, 117, 99, 116]⟩ _ _ (row_dn HO4.out hd.out)).mono (fun e w' h => ⟨by rw [h.1, hfg], h.2⟩))
                clear hfg hf hse sb hdr
                go_wp2_with fail
                refine CB.out.mono ?_
                rintro e w6 ⟨rfl, hw6⟩
                subst hw6
                clear CB
                go_wp2_with fail
                go_roundw
                case rel => exact ⟨i + 1, by go_num, by omega, hd⟩
                case measure => simp [intOf]; omega
            · obtain rfl : i = x.ss.length := by omega
              clear hlt
              have HD2 := Lib.hid hd.out
              clear hd lX cX fX
              generalize wr = w6 at *
              obtain ⟨lX, cX, fX⟩ := (X4.out.dn HD2.out).see
              go_wp2_with fail
              go_loopw [13] (fun v wr => ∃ i : Nat, v = .int .i64 i ∧ i ≤ x.es.length ∧ Hid (Dn w4 wr)) (fun v _ => x.es.length - (intOf v).toNat)
              case atStart => exact ⟨0, rfl, Nat.zero_le _, HD2⟩
              case round =>
                obtain ⟨i, rfl, hi, hd⟩ := hrel
                clear lX cX fX
                obtain ⟨lX, cX, fX⟩ := (X4.out.dn hd.out).see
                by_cases hlt : i < x.es.length
                · have htl : (i : Int) < (x.es.length : Int) := by omega
                  obtain ⟨f, hf⟩ : ∃ f, x.es[i]? = some f := ⟨_, List.getElem?_eq_getElem hlt⟩
                  have hfg := HG.out.2.1 f (List.mem_of_getElem? hf)
                  rw [enumAt] at hfg
                  obtain ⟨b, o, x0, x1, x2, rfl, hse, _, _, k2⟩ := (S2.out.bel hd.out.below).at3 hf (Enm.d_len f)
                  obtain ⟨ua, he, sb⟩ := Enm.open hse
                  simp only [List.cons.injEq, and_true] at he
                  obtain ⟨rfl, rfl, rfl⟩ := he
                  have CB : Hid (Calls Tryd.prog 8 #[v, .int .i64 f.at_, .string ⟨#[101, 110, 117, 109]⟩] wr fun e w' => e = .returned (.bool true) ∧ w' = wr) := Lib.hid ((begins_any l v f.at_ ⟨#[101, 110, 117, 109]⟩ _ _ (row_dn HO4.out hd.out)).mono (fun e w' h => ⟨by rw [h.1, hfg], h.2⟩))
                  clear hfg hf hse sb
                  go_wp2_with fail
                  refine CB.out.mono ?_
                  rintro e w7 ⟨rfl, hw7⟩
                  subst hw7
                  clear CB
                  go_wp2_with fail
                  go_roundw
                  case rel => exact ⟨i + 1, by go_num, by omega, hd⟩
                  case measure => simp [intOf]; omega
                · obtain rfl : i = x.es.length := by omega
                  clear hlt
                  go_wp2_with fail
                  go_ret
                  exact ⟨rfl, bel_to HB4.out HB4.out.size hd.out.below⟩
end Go.Proofs.YtjoiflokekebkaaDoor
