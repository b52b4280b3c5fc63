/- Texts of this claim in one file: H40, H41. -/
import Derived.Test.YthgnbeeobhfeaaaK11
set_option linter.all false
section
/- Walks: which blocks go to each (the document's). -/
namespace Go.Proofs.Ythgnbeeobhfeaaa.T
open Go.RowKit Go.Shelf Go.Proofs.YthgnbeeobhfeaaaW.PrintWords Go.Proofs.YthgnbeeobhfeaaaW.PrintLast
attribute [local go_sem] Oper.semAt_some

theorem RR.after {W W1 : World} {B e1 e2 i g n cap : Nat} {ok : Nat → Prop} {u : Value} {vs : List Value} {xss : List (List Value)} (h : RR W B e1 e2 ok (.slice (some ⟨g, 0, none⟩) n cap) vs xss) (hne : e1 ≠ e2) (hu : vs[i]? = some u) (hg : W.grownBy W1 u.ownBlock) :
    W1.cell? ⟨g, i, none⟩ = some u ∧ W1.frozen? ⟨g, i, none⟩ = false := by
  obtain ⟨c', hc'⟩ := own_typed h.own g rfl
  have hrow : ∀ k, u.ownBlock = some k → k ≠ g := fun k e hk => by
    obtain ⟨cc, hcc⟩ := h.typed (List.mem_of_getElem? hu) k e
    rw [hk, hc'] at hcc
    injection hcc with hcc
    injection hcc with _ hcc
    exact hne hcc.symm
  refine ⟨hg.cell (h.cell hu) (fun e => hrow _ e.symm rfl), ?_⟩
  have h6 : W1.heap[g]? = some (.cells c' e2 (0, 0)) := (hg.block _ (own_lt h.own g rfl) (fun e => hrow _ e.symm rfl)).trans hc'
  simp [World.frozen?, h6]

theorem RR.slice {W : World} {B e1 e2 : Nat} {ok : Nat → Prop} {v : Value} {vs : List Value} {xss : List (List Value)} (h : RR W B e1 e2 ok v vs xss) : ∃ A c, v = .slice A xss.length c := by
  obtain ⟨A, c, e⟩ := own_slice h.own
  exact ⟨A, c, by rw [e, h.len]⟩
theorem RR.at2 {W : World} {B : Nat} {ok : Nat → Prop} {A0 : Option Addr} {n c i : Nat} {vs : List Value} {xss : List (List Int)} {xs : List Int} (h : RR W B 3 42 ok (.slice A0 n c) vs (xss.map (encs (Value.int .i64)))) (hi : xss[i]? = some xs) :
    ∃ g A d, A0 = some ⟨g, 0, none⟩ ∧ W.cell? ⟨g, i, none⟩ = some (.slice A xs.length d) ∧ OI W B (.slice A xs.length d) xs := by
  have hlt : i < vs.length := by
    have := (List.getElem?_eq_some_iff.1 hi).1
    rw [h.len, List.length_map]
    exact this
  obtain ⟨u, hu⟩ : ∃ u, vs[i]? = some u := ⟨_, List.getElem?_eq_getElem hlt⟩
  obtain ⟨ys, hys, hown⟩ := h.elt hu
  rw [encs_at, hi] at hys
  obtain rfl := Option.some.inj hys
  rw [encs_length] at hown
  obtain ⟨A, d, rfl⟩ := own_slice hown
  obtain ⟨g, cap, hv, _, _⟩ := h.form (by omega)
  injection hv with hv1 hv2 hv3
  subst hv1
  exact ⟨g, A, d, rfl, h.cell hu, hown⟩
theorem own_len3 {W : World} {B : Nat} {e : TypeId} {z : Nat} {v : Value} {n : Nat} {xs : List Value} (h : W.ownsRow B e z v n xs) : n ≤ 9223372036854775807 := by
  obtain ⟨_, ⟨_, rfl⟩ | ⟨g, cap, cur, _, _, _, h1, h2, _⟩⟩ := h
  · omega
  · have : maxLen = 9223372036854775807 := rfl
    omega

/-- What a world of the inner loop holds. -/
structure RPk (w w8 : World) (hc m : Nat) (vs : List Value) (xss : List (List Int)) (W : World) : Prop where
  rr : RR W w.heap.size 3 42 (fun k => w.heap.size < k ∧ (k < hc ∨ w8.heap.size ≤ k)) (.slice (some ⟨w.heap.size + 1, 0, none⟩) m m) vs (xss.map (encs (Value.int .i64)))
  low : Below w.heap.size w W
  far : ∀ q, q < w8.heap.size → (q ≤ w.heap.size ∨ hc ≤ q) → W.heap[q]? = w8.heap[q]?
  big : w8.heap.size ≤ W.heap.size
theorem RPk.below {w w8 W W' : World} {hc m : Nat} {vs : List Value} {xss : List (List Int)} (h : RPk w w8 hc m vs xss W) (hb : Below W.heap.size W W') : RPk w w8 hc m vs xss W' :=
  ⟨h.rr.below hb, below_then h.low h.low.size hb, fun q h1 h2 => (hb.block q (Nat.lt_of_lt_of_le h1 h.big)).trans (h.far q h1 h2), Nat.le_trans h.big hb.size⟩
theorem RPk.put {w w8 W W1 : World} {hc m Q c1 : Nat} {vs : List Value} {xss : List (List Int)} {u : Value} {A1 : Option Addr} {ys : List Int} (h : RPk w w8 hc m vs xss W) (hlow : w.heap.size < w8.heap.size) (hu : vs[Q]? = some u)
    (ho : W1.ownsRow w.heap.size 3 1 (.slice A1 ys.length c1) ys.length (encs (Value.int .i64) ys)) (hg : W.grownBy W1 u.ownBlock) (hat : (Value.slice A1 ys.length c1).ownBlock = u.ownBlock ∨ ∃ b, (Value.slice A1 ys.length c1).ownBlock = some b ∧ W.heap.size ≤ b) :
    RPk w w8 hc m (vs.set Q (.slice A1 ys.length c1)) (xss.set Q ys) (W1.setCell ⟨w.heap.size + 1, Q, none⟩ (.slice A1 ys.length c1)) := by
  obtain ⟨hfar, hbel, _⟩ := h.rr.put_out (u1 := .slice A1 ys.length c1) hu hg
  have hbig := h.big
  have hs : W.heap.size ≤ (W1.setCell ⟨w.heap.size + 1, Q, none⟩ (.slice A1 ys.length c1)).heap.size := by rw [World.size_setCell]; exact hg.size
  refine ⟨?_, ?_, fun q h1 h2 => (hfar q (Nat.lt_of_lt_of_le h1 hbig) (fun hk => ?_)).trans (h.far q h1 h2), Nat.le_trans hbig hs⟩
  · rw [List.map_set]
    exact h.rr.put (by decide) hu (by rw [encs_length]; exact ho) hg hat (fun k hk => ⟨by omega, .inr (by omega)⟩)
  · exact h.low.trans (hbel w.heap.size (by have := h.low.size; omega) (fun k hk => by omega))
  · obtain ⟨h3, h4⟩ := hk
    omega
theorem predTo_last {bs : List Bk} {i n : Nat} {pre : List Int} (h : (n : Int) ∈ pre) : ∃ l, predTo bs i pre n = l ++ [(i : Int)] := ⟨_, by unfold predTo; rw [if_pos h]⟩
theorem predTo_low {bs : List Bk} {i n : Nat} {pre : List Int} (h : (n : Int) ∉ pre) : ∀ x ∈ predTo bs i pre n, x ≠ (i : Int) := by
  intro x hx e
  subst e
  exact h (mem_predTo.1 hx)

set_option maxRecDepth 100000 in
set_option maxHeartbeats 8000000 in
theorem rpreds_any (s : ByteArray) (p : Int) (A2 : Option Addr) (n2 c2 : Nat) (A3 : Option Addr) (c3 : Nat) (l03 : List S58) (w : World) (hC : Kd.C k58 w A3 l03.length l03) (hf : fewB l03 = true) :
    Calls Try.prog 19 #[bodyV s p A2 n2 c2 A3 l03.length c3] w fun e w' => ∃ v vs, e = .returned v ∧ RR w' w.heap.size 3 42 (fun k => w.heap.size ≤ k) v vs (((List.range l03.length).map (predsL (bksOf l03))).map (encs (Value.int .i64))) ∧ Below w.heap.size w w' := by
  have hm := (fewB_at hf).1
  have hmk := run_make_row' (P := Try.prog) 39 42 (.slice none 0 0) 24 Try.underlying39 info42 rfl .i64 .i64 l03.length (by omega) (by omega)
  have HF := Lib.hid hf
  have HC := Lib.hid hC
  have HBL := Lib.hid (bksOf_length l03)
  have hp0 : Below w.heap.size w ((w.alloc (.cells (bodyC s p A2 n2 c2 A3 l03.length c3) 25)).alloc (.cells (madeCells #[.slice none 0 0] l03.length) 42)) := below_alloc (below_alloc (Below.refl _ _) _) _
  have hp1 : BoxIs ((w.alloc (.cells (bodyC s p A2 n2 c2 A3 l03.length c3) 25)).alloc (.cells (madeCells #[.slice none 0 0] l03.length) 42)) w.heap.size (bodyC s p A2 n2 c2 A3 l03.length c3) 25 := by
    have h1 : BoxIs (w.alloc (.cells (bodyC s p A2 n2 c2 A3 l03.length c3) 25)) w.heap.size (bodyC s p A2 n2 c2 A3 l03.length c3) 25 := heap_alloc_new w _
    exact h1.below (below_alloc (Below.refl _ _) _) h1.lt
  have hp2 : RR ((w.alloc (.cells (bodyC s p A2 n2 c2 A3 l03.length c3) 25)).alloc (.cells (madeCells #[.slice none 0 0] l03.length) 42)) w.heap.size 3 42 (fun k => w.heap.size < k) (.slice (some ⟨w.heap.size + 1, 0, none⟩) l03.length l03.length) (List.replicate l03.length (.slice none 0 0)) ((xssTo (bksOf l03) 0 []).map (encs (Value.int .i64))) := by
    have hr := RR.nils (w.alloc (.cells (bodyC s p A2 n2 c2 A3 l03.length c3) 25)) w.heap.size 3 42 l03.length (by simp) (by omega)
    rw [World.size_alloc] at hr
    rw [xssTo_zero, bksOf_length, List.map_replicate]
    exact hr.mono (fun k hk => by omega)
  have HP0 := Lib.hid hp0
  have HP1 := Lib.hid hp1
  have HP2 := Lib.hid hp2
  clear hf hC hp0 hp1 hp2
  go_enter Try.func19, Try.ntmps19
  go_wp2_with fail
  clear hmk
  generalize ((w.alloc (.cells (bodyC s p A2 n2 c2 A3 l03.length c3) 25)).alloc (.cells (madeCells #[.slice none 0 0] l03.length) 42)) = w1 at *
  go_loopw [4] (fun u4 wr => ∃ (i : Nat) (vs : List Value), u4 = .int .i64 i ∧ i ≤ l03.length ∧ Hid (RR wr w.heap.size 3 42 (fun k => w.heap.size < k) (.slice (some ⟨w.heap.size + 1, 0, none⟩) l03.length l03.length) vs ((xssTo (bksOf l03) i []).map (encs (Value.int .i64)))) ∧ Hid (Below w.heap.size w wr) ∧ Hid (BoxIs wr w.heap.size (bodyC s p A2 n2 c2 A3 l03.length c3) 25)) (fun u _ => l03.length - (intOf u).toNat)
  case atStart => exact ⟨0, _, rfl, Nat.zero_le _, HP2, HP0, HP1⟩
  case round =>
    clear HP0 HP1 HP2
    obtain ⟨i, vs, rfl, hi, HR, HB, HBX⟩ := hrel
    obtain ⟨wo, rfl⟩ : ∃ x, x = wr := ⟨wr, rfl⟩
    have e0 := HBX.out.cell 0 _ rfl
    have e1 := HBX.out.cell 1 _ rfl
    have e2 := HBX.out.cell 2 _ rfl
    have e3 := HBX.out.cell 3 _ rfl
    by_cases hlt : i < l03.length
    · have hto := rto_any s p A2 n2 c2 A3 c3 l03 i wo (Kd.C_below HC.out HB.out) hlt HF.out
      have hmem : ∀ q ∈ succI (bksOf l03) i, 0 ≤ q ∧ q < (l03.length : Int) := fun q hq => by
        have := mem_succI hq
        rwa [HBL.out] at this
      have htl : (succI (bksOf l03) i).length ≤ 30 := by
        have h1 := okTo_le (bksOf l03).length (((bksOf l03)[i]?.map Bk.to).getD [])
        rw [rd_T58_get hlt] at h1
        have h2 := ((fewB_at HF.out).2 (rd_T58 l03 i) (by simp [rd_T58, List.getElem?_eq_getElem hlt, List.getD_eq_getElem?_getD])).2
        have h3 : succI (bksOf l03) i = okTo (bksOf l03).length (((bksOf l03)[i]?.map Bk.to).getD []) := rfl
        rw [h3, rd_T58_get hlt]
        exact Nat.le_trans h1 h2
      obtain ⟨tos, htos⟩ : ∃ tos, tos = succI (bksOf l03) i := ⟨_, rfl⟩
      rw [← htos] at hto hmem htl
      have HTO := Lib.hid hto
      have HMEM := Lib.hid hmem
      have HTOS := Lib.hid htos
      have hwlt := HBX.out.lt
      clear hto hmem htos
      go_wp2_with fail
      refine HTO.out.mono ?_
      rintro e w8 ⟨vt, rfl, hoi, hb8⟩
      obtain ⟨At, ct, rfl⟩ := hoi.slice
      have HOI := Lib.hid hoi
      have hs8 := hb8.size
      have HK0 : Hid (RPk w w8 wo.heap.size l03.length vs (xssTo (bksOf l03) i (tos.take 0)) w8) := Lib.hid ⟨(HR.out.bound.below hb8).mono (fun k hk => ⟨hk.1, .inl hk.2⟩), below_then HB.out HB.out.size hb8, fun _ _ _ => rfl, Nat.le_refl _⟩
      have HB8 := Lib.hid hb8
      have hwlt8 : w.heap.size < w8.heap.size := by omega
      clear hoi hb8 HTO HR e0 e1 e2 e3 hs8
      go_wp2_with fail
      go_loopw [6] (fun u6 wr => ∃ (k : Nat) (vs : List Value), u6 = .int .i64 k ∧ k ≤ tos.length ∧ Hid (RPk w w8 wo.heap.size l03.length vs (xssTo (bksOf l03) i (tos.take k)) wr)) (fun u _ => tos.length - (intOf u).toNat)
      case atStart => exact ⟨0, _, rfl, Nat.zero_le _, HK0⟩
      case round =>
        clear HK0
        obtain ⟨k, vs, rfl, hk, HK⟩ := hrel
        by_cases hlt2 : k < tos.length
        · obtain ⟨q, hq⟩ : ∃ q, tos[k]? = some q := ⟨_, List.getElem?_eq_getElem hlt2⟩
          obtain ⟨hq0, hq1⟩ := HMEM.out q (List.mem_of_getElem? hq)
          obtain ⟨Q, rfl⟩ := Int.eq_ofNat_of_zero_le hq0
          have hoi : OI wr wo.heap.size (.slice At tos.length ct) tos := own_move HOI.out (fun g hg => HK.out.far g (own_lt HOI.out g hg) (.inr (own_base HOI.out g hg)))
          obtain ⟨gt, rfl, hct⟩ := OI.at2 hoi hq
          have hQ : Q < l03.length := by omega
          have hxl : (xssTo (bksOf l03) i (tos.take k)).length = l03.length := by rw [xssTo_length, HBL.out]
          have hvl : vs.length = l03.length := by rw [HK.out.rr.len, List.length_map, hxl]
          obtain ⟨u, hu⟩ : ∃ u, vs[Q]? = some u := ⟨_, List.getElem?_eq_getElem (by omega)⟩
          obtain ⟨xs, hxs, hown⟩ := HK.out.rr.elt hu
          rw [encs_at, xssTo_get (by rw [HBL.out]; exact hQ)] at hxs
          obtain rfl := Option.some.inj hxs
          rw [encs_length] at hown
          have hfew : (predTo (bksOf l03) i (tos.take k) Q).length ≤ i + 1 := predTo_few
          have hold : (Q : Int) ∈ tos.take k → xssTo (bksOf l03) i (tos.take (k + 1)) = xssTo (bksOf l03) i (tos.take k) := fun hin => by rw [List.take_succ, hq]; exact xssTo_old hin
          have hnew : (Q : Int) ∉ tos.take k → xssTo (bksOf l03) i (tos.take (k + 1)) = (xssTo (bksOf l03) i (tos.take k)).set Q (predTo (bksOf l03) i (tos.take k) Q ++ [(i : Int)]) := fun hin => by rw [List.take_succ, hq]; exact xssTo_new hin
          have hlast : (Q : Int) ∈ tos.take k → ∃ l, predTo (bksOf l03) i (tos.take k) Q = l ++ [(i : Int)] := predTo_last
          have hlo : (Q : Int) ∉ tos.take k → ∀ x ∈ predTo (bksOf l03) i (tos.take k) Q, x ≠ (i : Int) := predTo_low
          obtain ⟨pr, hpr⟩ : ∃ pr, pr = predTo (bksOf l03) i (tos.take k) Q := ⟨_, rfl⟩
          rw [← hpr] at hown hfew hnew hlast hlo
          obtain ⟨A, c, rfl⟩ := own_slice hown
          have HV := Lib.hid hu
          have hcu := HK.out.rr.cell hu
          have HOLD := Lib.hid hold
          have HNEW := Lib.hid hnew
          have HOW : Hid (OI wr w.heap.size (.slice A pr.length c) pr) := Lib.hid hown
          clear hu hold hnew hxs hxl hvl hpr hown hoi hq
          by_cases hin : (Q : Int) ∈ tos.take k
          · obtain ⟨l, hl⟩ := hlast hin
            have hln : pr.length = l.length + 1 := by rw [hl]; simp
            obtain ⟨ga, rfl, hca⟩ := OI.at2 HOW.out (show pr[l.length]? = some (i : Int) by rw [hl]; simp)
            have hne : ((pr.length : Int) == 0) = false := by rw [beq_eq_false_iff_ne]; omega
            have hwv : Value.int .i64 (wrap64 ((pr.length : Int) - 1)) = Value.int .i64 (l.length : Int) := congrArg (Value.int .i64) (by unfold wrap64; omega)
            have hwk : Value.int .i64 (IntKind.i64.wrap ((pr.length : Int) - 1)) = Value.int .i64 (l.length : Int) := congrArg (Value.int .i64) ((wrapK_small (by omega) (by omega)).trans (by omega))
            have hle : (l.length : Int) < (pr.length : Int) := by omega
            have HK2 : Hid (RPk w w8 wo.heap.size l03.length vs (xssTo (bksOf l03) i (tos.take (k + 1))) wr) := Lib.hid (by rw [HOLD.out hin]; exact HK.out)
            clear hl hln hlast hlo hin HOLD HNEW HK HOW
            go_wp2_with fail
            try (go_quiet (fail); go_wp2_with fail)
            go_roundw
            case rel => exact ⟨k + 1, vs, by go_num, by omega, Lib.hid (by first | exact HK2.out | exact HK2.out.below (pw_below_drewN (Below.refl _ _) _))⟩
            case measure => first | (simp [intOf]; omega) | (simp [intOf]; done)
          · have hcase : pr.length = 0 ∨ 0 < pr.length := Nat.eq_zero_or_pos _
            have HK3 : Hid (xssTo (bksOf l03) i (tos.take (k + 1)) = (xssTo (bksOf l03) i (tos.take k)).set Q (pr ++ [(i : Int)])) := Lib.hid (HNEW.out hin)
            have HLO := Lib.hid (hlo hin)
            clear HOLD HNEW hlast hlo hin
            rcases hcase with h0 | h0
            · have hne : ((pr.length : Int) == 0) = true := by rw [beq_iff_eq]; omega
              clear h0
              have HO1 : Hid (wr.ownsRow w.heap.size 3 1 (.slice A pr.length c) (encs (Value.int .i64) pr).length (encs (Value.int .i64) pr)) := Lib.hid (by rw [encs_length]; exact HOW.out)
              go_wp2_with (first | (at_builtin; refine print_append (w0 := w) w.heap.size rfl (.tmp 56) (.tmp 58) 42 3 (.int .i64 0) 8 rfl Try.underlying42 info3 rfl (by decide) (.slice A pr.length c) (encs (Value.int .i64) pr) _ rfl rfl rfl HO1.out HK.out.low HK.out.low.size (by rw [encs_length]; omega) ?_; intro v5 w5 ho5 hb5 hg5 hat5; obtain ⟨A1, c1, rfl⟩ : ∃ A c, v5 = .slice A (pr.length + 1) c := (by obtain ⟨A, c, h⟩ := own_slice ho5; exact ⟨A, c, by rw [h, List.length_append, encs_length]; rfl⟩); obtain ⟨hx5, hf5⟩ := HK.out.rr.after (by decide) HV.out hg5; have HP := Lib.hid (HK.out.put (Q := Q) (c1 := c1) (A1 := A1) (ys := pr ++ [(i : Int)]) hwlt8 HV.out (by rw [List.length_append]; have h := ho5; rw [List.length_append, encs_length] at h; simpa [encs] using h) hg5 (by rw [List.length_append]; exact hat5)); clear ho5 hb5 hg5 hat5 HO1))
              go_roundw
              case rel => exact ⟨k + 1, vs.set Q (.slice A1 (pr.length + 1) c1), by go_num, by omega, Lib.hid (by rw [HK3.out]; have h := HP.out; rw [List.length_append] at h; exact h)⟩
              case measure => first | (simp [intOf]; omega) | (simp [intOf]; done)
            · obtain ⟨P, hP⟩ : ∃ P, pr.length = P + 1 := ⟨pr.length - 1, by omega⟩
              obtain ⟨j, hj⟩ : ∃ j, pr[P]? = some j := ⟨_, List.getElem?_eq_getElem (by omega)⟩
              have hji := HLO.out j (List.mem_of_getElem? hj)
              have hjn : (j != (i : Int)) = true := by simpa using hji
              obtain ⟨ga, rfl, hca⟩ := OI.at2 HOW.out hj
              have hne : ((pr.length : Int) == 0) = false := by rw [beq_eq_false_iff_ne]; omega
              have hwv : Value.int .i64 (wrap64 ((pr.length : Int) - 1)) = Value.int .i64 (P : Int) := congrArg (Value.int .i64) (by unfold wrap64; omega)
              have hwk : Value.int .i64 (IntKind.i64.wrap ((pr.length : Int) - 1)) = Value.int .i64 (P : Int) := congrArg (Value.int .i64) ((wrapK_small (by omega) (by omega)).trans (by omega))
              have hle : (P : Int) < (pr.length : Int) := by omega
              clear hj hji hP
              have HO1 : Hid (wr.ownsRow w.heap.size 3 1 (.slice (some ⟨ga, 0, none⟩) pr.length c) (encs (Value.int .i64) pr).length (encs (Value.int .i64) pr)) := Lib.hid (by rw [encs_length]; exact HOW.out)
              go_wp2_with (first | (at_builtin; refine print_append (w0 := w) w.heap.size rfl (.tmp 56) (.tmp 58) 42 3 (.int .i64 0) 8 rfl Try.underlying42 info3 rfl (by decide) (.slice (some ⟨ga, 0, none⟩) pr.length c) (encs (Value.int .i64) pr) _ rfl rfl rfl HO1.out HK.out.low HK.out.low.size (by rw [encs_length]; omega) ?_; intro v5 w5 ho5 hb5 hg5 hat5; obtain ⟨A1, c1, rfl⟩ : ∃ A c, v5 = .slice A (pr.length + 1) c := (by obtain ⟨A, c, h⟩ := own_slice ho5; exact ⟨A, c, by rw [h, List.length_append, encs_length]; rfl⟩); obtain ⟨hx5, hf5⟩ := HK.out.rr.after (by decide) HV.out hg5; have HP := Lib.hid (HK.out.put (Q := Q) (c1 := c1) (A1 := A1) (ys := pr ++ [(i : Int)]) hwlt8 HV.out (by rw [List.length_append]; have h := ho5; rw [List.length_append, encs_length] at h; simpa [encs] using h) hg5 (by rw [List.length_append]; exact hat5)); clear ho5 hb5 hg5 hat5 HO1))
              go_roundw
              case rel => exact ⟨k + 1, vs.set Q (.slice A1 (pr.length + 1) c1), by go_num, by omega, Lib.hid (by rw [HK3.out]; have h := HP.out; rw [List.length_append] at h; exact h)⟩
              case measure => first | (simp [intOf]; omega) | (simp [intOf]; done)
        · obtain rfl : k = tos.length := by omega
          have HR : Hid (RR wr w.heap.size 3 42 (fun k => w.heap.size < k) (.slice (some ⟨w.heap.size + 1, 0, none⟩) l03.length l03.length) vs ((xssTo (bksOf l03) (i + 1) []).map (encs (Value.int .i64)))) := Lib.hid (by
            have h := HK.out.rr
            rw [List.take_length, xssTo_done HTOS.out] at h
            exact h.mono (fun k hk => hk.1))
          have HB9 := Lib.hid HK.out.low
          have HBX9 : Hid (BoxIs wr w.heap.size (bodyC s p A2 n2 c2 A3 l03.length c3) 25) := Lib.hid (by
            have h := HBX.out.below HB8.out HBX.out.lt
            unfold BoxIs at h ⊢
            rw [HK.out.far _ hwlt8 (.inl (Nat.le_refl _))]
            exact h)
          clear HK HBX HB hlt2 hk HOI HMEM HTOS
          go_wp2_with fail
          go_roundw
          case rel => exact ⟨i + 1, vs, by go_num, by omega, HR, HB9, HBX9⟩
          case measure => first | (simp [intOf]; omega) | (simp [intOf]; done)
    · obtain rfl : i = l03.length := by omega
      clear e0 e1 e2 e3
      go_wp2_with fail
      go_ret
      refine ⟨_, vs, rfl, ?_, HB.out⟩
      have h := HR.out
      rw [show xssTo (bksOf l03) l03.length [] = xssTo (bksOf l03) (bksOf l03).length [] by rw [HBL.out], xssTo_all, HBL.out] at h
      exact h.mono (fun k hk => Nat.le_of_lt hk)
end Go.Proofs.Ythgnbeeobhfeaaa.T
end

section
/- Walks: which blocks are reached (the document's). -/
namespace Go.Proofs.Ythgnbeeobhfeaaa.T
open Go.RowKit Go.Shelf Go.Proofs.YthgnbeeobhfeaaaW.PrintWords Go.Proofs.YthgnbeeobhfeaaaW.PrintLast

/-! ### Plainly -/
structure RI (bs : List Bk) (out : List Bool) : Prop where
  len : out.length = bs.length
  zero : 0 < bs.length → out[0]? = some true
  sound : ∀ j, out[j]? = some true → Rch bs j
def RDone (bs : List Bk) (out : List Bool) : Prop := ∀ j, Rch bs j → out[j]? = some true
def RMore (a b : List Bool) : Prop := ∀ j : Nat, a[j]? = some true → b[j]? = some true
/-- In a round, behind i blocks, and k places of the block i. -/
structure RJ (bs : List Bk) (out0 : List Bool) (i : Nat) (pre : List Int) (out : List Bool) : Prop where
  ri : RI bs out
  more : RMore out0 out
  old : ∀ i', i' < i → out0[i']? = some true → ∀ m, edge bs i' m = true → out[m]? = some true
  now : ∀ m : Nat, (m : Int) ∈ pre → out[m]? = some true
theorem RJ.start {bs : List Bk} {out : List Bool} (h : RI bs out) : RJ bs out 0 [] out := ⟨h, fun _ h => h, fun i' h => by omega, fun m h => by cases h⟩
theorem RJ.skip {bs : List Bk} {out0 out : List Bool} {i : Nat} (h : RJ bs out0 i [] out) (hi : out[i]? = some false) : RJ bs out0 (i + 1) [] out :=
  ⟨h.ri, h.more, fun i' h1 h2 m he => by
    by_cases e : i' = i
    · subst e
      have := h.more i' h2
      rw [hi] at this
      cases this
    · exact h.old i' (by omega) h2 m he, h.now⟩
theorem RJ.next {bs : List Bk} {out0 out : List Bool} {i : Nat} (h : RJ bs out0 i (succI bs i) out) : RJ bs out0 (i + 1) [] out :=
  ⟨h.ri, h.more, fun i' h1 h2 m he => by
    by_cases e : i' = i
    · subst e
      exact h.now m (edge_iff.1 he)
    · exact h.old i' (by omega) h2 m he, fun m h => by cases h⟩
theorem RJ.set {bs : List Bk} {out0 out : List Bool} {i Q : Nat} {pre : List Int} (h : RJ bs out0 i pre out) (hQ : Q < out.length) (hr : Rch bs Q) : RJ bs out0 i (pre ++ [(Q : Int)]) (out.set Q true) := by
  have hm : RMore out (out.set Q true) := fun j hj => by
    by_cases e : Q = j
    · subst e
      rw [List.getElem?_set_self hQ]
    · rwa [List.getElem?_set_ne e]
  refine ⟨⟨by rw [List.length_set]; exact h.ri.len, fun h0 => hm 0 (h.ri.zero h0), fun j hj => ?_⟩, fun j hj => hm j (h.more j hj), fun i' h1 h2 m he => hm m (h.old i' h1 h2 m he), fun m hm' => ?_⟩
  · by_cases e : Q = j
    · subst e; exact hr
    · rw [List.getElem?_set_ne e] at hj
      exact h.ri.sound j hj
  · rcases List.mem_append.1 hm' with h1 | h1
    · exact hm m (h.now m h1)
    · rw [List.mem_singleton] at h1
      have e : m = Q := by omega
      subst e
      rw [List.getElem?_set_self hQ]
theorem count_more : ∀ (a b : List Bool), a.length = b.length → RMore a b → (a = b ∨ a.count true + 1 ≤ b.count true) ∧ a.count true ≤ b.count true
  | [], [], _, _ => ⟨.inl rfl, Nat.le_refl _⟩
  | x :: a, [], h, _ => by cases h
  | [], y :: b, h, _ => by cases h
  | x :: a, y :: b, h, hm => by
    have h' : a.length = b.length := by simpa using h
    obtain ⟨h1, h2⟩ := count_more a b h' (fun j hj => by simpa using hm (j + 1) (by simpa using hj))
    have h0 := hm 0
    simp only [List.getElem?_cons_zero, Option.some.injEq] at h0
    cases x <;> cases y
    · rw [List.count_cons_of_ne (by decide), List.count_cons_of_ne (by decide)]
      exact ⟨h1.imp (fun e => by rw [e]) id, h2⟩
    · rw [List.count_cons_of_ne (by decide), List.count_cons_self]
      exact ⟨.inr (by omega), by omega⟩
    · exact absurd (h0 rfl) (by decide)
    · rw [List.count_cons_self, List.count_cons_self]
      exact ⟨h1.imp (fun e => by rw [e]) (fun e => by omega), by omega⟩
/-- Behind r rounds: all is done, or more than r are marked. -/
def RR_ (bs : List Bk) (r : Nat) (out : List Bool) : Prop := RI bs out ∧ (RDone bs out ∨ r + 1 ≤ out.count true)
theorem RR_.start {bs : List Bk} {out : List Bool} (h : RI bs out) : RR_ bs 0 out := by
  refine ⟨h, ?_⟩
  by_cases h0 : 0 < bs.length
  · refine .inr ?_
    have h1 := h.zero h0
    have : true ∈ out := List.mem_of_getElem? h1
    have := List.count_pos_iff.2 this
    omega
  · exact .inl (fun j hj => absurd hj.lt (by omega))
theorem RR_.next {bs : List Bk} {out0 out : List Bool} {r : Nat} (h0 : RR_ bs r out0) (h : RJ bs out0 bs.length [] out) : RR_ bs (r + 1) out := by
  refine ⟨h.ri, ?_⟩
  rcases h0.2 with hd | hc
  · exact .inl (fun j hj => h.more j (hd j hj))
  · rcases (count_more out0 out (h0.1.len.trans h.ri.len.symm) h.more).1 with e | e
    · refine .inl (fun j hj => ?_)
      subst e
      induction hj with
      | zero hb => exact h.ri.zero hb
      | step hi he ih => exact h.old _ hi.lt ih _ he
    · exact .inr (by omega)
theorem RR_.all {bs : List Bk} {out : List Bool} (h : RR_ bs bs.length out) : out = reachL bs := by
  have hd : RDone bs out := by
    rcases h.2 with hd | hc
    · exact hd
    · have := List.count_le_length (a := true) (l := out)
      have := h.1.len
      omega
  apply List.ext_getElem?
  intro j
  by_cases hj : j < bs.length
  · have hl := h.1.len
    obtain ⟨x, hx⟩ : ∃ x, out[j]? = some x := ⟨_, List.getElem?_eq_getElem (by omega)⟩
    rw [hx]
    simp only [reachL, List.getElem?_map, List.getElem?_range hj, Option.map_some, Option.some.injEq]
    cases x with
    | true => exact (rchB_iff.2 (h.1.sound j hx)).symm
    | false =>
      cases hr : rchB bs j with
      | false => rfl
      | true =>
        have := hd j (rchB_iff.1 hr)
        rw [hx] at this
        cases this
  · have hl := h.1.len
    rw [List.getElem?_eq_none (by omega), List.getElem?_eq_none (by simp [reachL]; omega)]
theorem RI.start {bs : List Bk} {n : Nat} (hn : bs.length = n) (h0 : 0 < n) : RI bs ((List.replicate n false).set 0 true) := by
  refine ⟨by simp [hn], fun _ => by rw [List.getElem?_set_self (by simpa using h0)], fun j hj => ?_⟩
  by_cases e : 0 = j
  · subst e
    exact .zero (by omega)
  · rw [List.getElem?_set_ne e] at hj
    have := List.mem_of_getElem? hj
    simp at this
theorem reachL_none {bs : List Bk} (h : bs.length = 0) : reachL bs = [] := by unfold reachL; rw [h]; rfl
theorem reachL_len (bs : List Bk) : (reachL bs).length = bs.length := by simp [reachL]

/-! ### The walk -/
set_option maxRecDepth 100000 in
set_option maxHeartbeats 8000000 in
theorem rreach_any (s : ByteArray) (p : Int) (A2 : Option Addr) (n2 c2 : Nat) (A3 : Option Addr) (c3 : Nat) (l03 : List S58) (w : World) (hC : Kd.C k58 w A3 l03.length l03) (hf : fewB l03 = true) :
    Calls Try.prog 21 #[bodyV s p A2 n2 c2 A3 l03.length c3] w fun e w' => ∃ v, e = .returned v ∧ OB w' w.heap.size v (reachL (bksOf l03)) ∧ Below w.heap.size w w' := by
  have hm := (fewB_at hf).1
  have hmk := run_make_row' (P := Try.prog) 26 4 (.bool false) 1 Try.underlying26 info4 rfl .i64 .i64 l03.length (by omega) (by omega)
  have HF := Lib.hid hf
  have HC := Lib.hid hC
  have HBL := Lib.hid (bksOf_length l03)
  have hp0 : Below w.heap.size w ((w.alloc (.cells (bodyC s p A2 n2 c2 A3 l03.length c3) 25)).alloc (.cells (madeCells #[.bool false] l03.length) 4)) := below_alloc (below_alloc (Below.refl _ _) _) _
  have hp1 : BoxIs ((w.alloc (.cells (bodyC s p A2 n2 c2 A3 l03.length c3) 25)).alloc (.cells (madeCells #[.bool false] l03.length) 4)) w.heap.size (bodyC s p A2 n2 c2 A3 l03.length c3) 25 := by
    have h1 : BoxIs (w.alloc (.cells (bodyC s p A2 n2 c2 A3 l03.length c3) 25)) w.heap.size (bodyC s p A2 n2 c2 A3 l03.length c3) 25 := heap_alloc_new w _
    exact h1.below (below_alloc (Below.refl _ _) _) h1.lt
  have hp2 : OB ((w.alloc (.cells (bodyC s p A2 n2 c2 A3 l03.length c3) 25)).alloc (.cells (madeCells #[.bool false] l03.length) 4)) w.heap.size (.slice (some ⟨w.heap.size + 1, 0, none⟩) l03.length l03.length) (List.replicate l03.length false) := by
    have h := own_made_of' (enc := Value.bool) (d := false) (w.alloc (.cells (bodyC s p A2 n2 c2 A3 l03.length c3) 25)) w.heap.size 4 l03.length (by simp) (by omega)
    rw [World.size_alloc] at h
    exact h
  have HP0 := Lib.hid hp0
  have HP1 := Lib.hid hp1
  have HP2 := Lib.hid hp2
  clear hf hC hp0 hp1 hp2
  by_cases hn0 : l03.length = 0
  · have hn' : ¬ ((l03.length : Int) > 0) := by omega
    have hn2 : ¬ ((0 : Int) < (l03.length : Int)) := by omega
    have HN0 := Lib.hid hn0
    clear hn0
    go_enter Try.func21, Try.ntmps21
    go_wp2_with fail
    clear hmk
    generalize ((w.alloc (.cells (bodyC s p A2 n2 c2 A3 l03.length c3) 25)).alloc (.cells (madeCells #[.bool false] l03.length) 4)) = w1 at *
    go_loopw [4] (fun u4 wr => u4 = .int .i64 0 ∧ wr = w1) (fun _ _ => 0)
    case atStart => exact ⟨rfl, rfl⟩
    case round =>
      obtain ⟨rfl, rfl⟩ := hrel
      go_wp2_with fail
      go_ret
      refine ⟨_, rfl, ?_, HP0.out⟩
      rw [reachL_none (by rw [HBL.out, HN0.out])]
      have h := HP2.out
      rw [show List.replicate l03.length false = [] by rw [HN0.out]; rfl] at h
      exact h
  · have hn' : (l03.length : Int) > 0 := by omega
    have hn2 : (0 : Int) < (l03.length : Int) := by omega
    have hoe : ((w.alloc (.cells (bodyC s p A2 n2 c2 A3 l03.length c3) 25)).alloc (.cells (madeCells #[.bool false] l03.length) 4)).ownsRow w.heap.size 4 1 (.slice (some ⟨w.heap.size + 1, 0, none⟩) l03.length l03.length) l03.length (encs Value.bool (List.replicate l03.length false)) := by
      have h := HP2.out
      unfold OB at h
      rwa [List.length_replicate] at h
    obtain ⟨hst, hgr⟩ := own_store_of (enc := Value.bool) hoe ((0 : Nat) : Int) true
    obtain ⟨hcl', hfz⟩ := own_at_of (enc := Value.bool) (d := false) hoe ((0 : Nat) : Int) (by omega) (by omega)
    rw [Int.toNat_natCast] at hst hgr hcl' hfz
    have HST : Hid (OB (((w.alloc (.cells (bodyC s p A2 n2 c2 A3 l03.length c3) 25)).alloc (.cells (madeCells #[.bool false] l03.length) 4)).setCell ⟨w.heap.size + 1, 0, none⟩ (.bool true)) w.heap.size (.slice (some ⟨w.heap.size + 1, 0, none⟩) l03.length l03.length) ((List.replicate l03.length false).set 0 true)) := Lib.hid (by
      unfold OB
      rw [List.length_set, List.length_replicate]
      exact hst)
    have HB1 := Lib.hid (HP0.out.grown hgr HP0.out.size (fun k hk => by injection hk with hk; omega))
    have HX1 := Lib.hid (HP1.out.grown hgr (fun e => by injection e with e; omega))
    have hd0 : decide (0 < l03.length) = true := by simp; omega
    have hd1 : 0 < l03.length := by omega
    have hww : (((w.alloc (.cells (bodyC s p A2 n2 c2 A3 l03.length c3) 25)).alloc (.cells (madeCells #[.bool false] l03.length) 4)).setCell ⟨w.heap.size + 1, 0, none⟩ (.bool true)) = ((w.alloc (.cells (bodyC s p A2 n2 c2 A3 l03.length c3) 25)).alloc (.cells ((madeCells #[.bool false] l03.length).setIfInBounds 0 (.bool true)) 4)) := by simp [go_sem]
    rw [hww] at HST HB1 HX1
    clear hoe hst hgr HP0 HP1 HP2 hww
    go_enter Try.func21, Try.ntmps21
    go_wp2_with fail
    clear hmk hcl' hfz
    generalize ((w.alloc (.cells (bodyC s p A2 n2 c2 A3 l03.length c3) 25)).alloc (.cells ((madeCells #[.bool false] l03.length).setIfInBounds 0 (.bool true)) 4)) = w1 at *
    go_loopw [4] (fun u4 wr => ∃ (r : Nat) (out : List Bool), u4 = .int .i64 r ∧ r ≤ l03.length ∧ Hid (RR_ (bksOf l03) r out) ∧ Hid (OB wr w.heap.size (.slice (some ⟨w.heap.size + 1, 0, none⟩) l03.length l03.length) out) ∧ Hid (Below w.heap.size w wr) ∧ Hid (BoxIs wr w.heap.size (bodyC s p A2 n2 c2 A3 l03.length c3) 25)) (fun u _ => l03.length - (intOf u).toNat)
    case atStart => exact ⟨0, _, rfl, Nat.zero_le _, Lib.hid (RR_.start (RI.start HBL.out (by omega))), HST, HB1, HX1⟩
    case round =>
      clear HST HB1 HX1
      obtain ⟨r, out0, rfl, hr, HR0, HO, HB, HBX⟩ := hrel
      by_cases hltr : r < l03.length
      · go_wp2_with fail
        go_loopw [5] (fun u5 wr => ∃ (i : Nat) (out : List Bool), u5 = .int .i64 i ∧ i ≤ l03.length ∧ Hid (RJ (bksOf l03) out0 i [] out) ∧ Hid (OB wr w.heap.size (.slice (some ⟨w.heap.size + 1, 0, none⟩) l03.length l03.length) out) ∧ Hid (Below w.heap.size w wr) ∧ Hid (BoxIs wr w.heap.size (bodyC s p A2 n2 c2 A3 l03.length c3) 25)) (fun u _ => l03.length - (intOf u).toNat)
        case atStart => exact ⟨0, out0, rfl, Nat.zero_le _, Lib.hid (RJ.start HR0.out.1), HO, HB, HBX⟩
        case round =>
          clear HO HB HBX
          obtain ⟨i, out, rfl, hi, HJ, HO, HB, HBX⟩ := hrel
          by_cases hlt : i < l03.length
          · have hol : out.length = l03.length := by rw [HJ.out.ri.len, HBL.out]
            obtain ⟨b, hb⟩ : ∃ b, out[i]? = some b := ⟨_, List.getElem?_eq_getElem (by omega)⟩
            obtain ⟨g, hg, hcb⟩ := OB.at2 HO.out hb
            injection hg with hg
            injection hg with hg
            subst hg
            have HBi := Lib.hid hb
            clear hb hol
            cases b with
            | false =>
              go_wp2_with fail
              go_roundw
              case rel => exact ⟨i + 1, out, by go_num, by omega, Lib.hid (HJ.out.skip HBi.out), HO, HB, HBX⟩
              case measure => first | (simp [intOf]; omega) | (simp [intOf]; done)
            | true =>
              have e0 := HBX.out.cell 0 _ rfl
              have e1 := HBX.out.cell 1 _ rfl
              have e2 := HBX.out.cell 2 _ rfl
              have e3 := HBX.out.cell 3 _ rfl
              have hto := rto_any s p A2 n2 c2 A3 c3 l03 i wr (Kd.C_below HC.out HB.out) hlt HF.out
              have hmem : ∀ q ∈ succI (bksOf l03) i, 0 ≤ q ∧ q < (l03.length : Int) := fun q hq => by
                have := mem_succI hq
                rwa [HBL.out] at this
              have hrch : ∀ Q : Nat, (Q : Int) ∈ succI (bksOf l03) i → Rch (bksOf l03) Q := fun Q hq => .step (HJ.out.ri.sound i HBi.out) (edge_iff.2 hq)
              have htl : (succI (bksOf l03) i).length ≤ 30 := by
                have h1 := okTo_le (bksOf l03).length (((bksOf l03)[i]?.map Bk.to).getD [])
                rw [rd_T58_get hlt] at h1
                have h2 := ((fewB_at HF.out).2 (rd_T58 l03 i) (by simp [rd_T58, List.getElem?_eq_getElem hlt, List.getD_eq_getElem?_getD])).2
                have h3 : succI (bksOf l03) i = okTo (bksOf l03).length (((bksOf l03)[i]?.map Bk.to).getD []) := rfl
                rw [h3, rd_T58_get hlt]
                exact Nat.le_trans h1 h2
              obtain ⟨tos, htos⟩ : ∃ tos, tos = succI (bksOf l03) i := ⟨_, rfl⟩
              rw [← htos] at hto hmem hrch htl
              have HTO := Lib.hid hto
              have HMEM := Lib.hid hmem
              have HRCH := Lib.hid hrch
              have HTOS := Lib.hid htos
              have hwlt := HBX.out.lt
              have hgw := own_lt HO.out _ rfl
              clear hto hmem hrch htos HBi
              go_wp2_with fail
              refine HTO.out.mono ?_
              rintro e w8 ⟨vt, rfl, hoi, hb8⟩
              obtain ⟨At, ct, rfl⟩ := hoi.slice
              have HO8 := Lib.hid (pw_own_below HO.out hb8)
              have HB8 := Lib.hid (below_then HB.out HB.out.size hb8)
              have HX8 := Lib.hid (HBX.out.below hb8 HBX.out.lt)
              have HOI := Lib.hid hoi
              have HJ0 : Hid (RJ (bksOf l03) out0 i (tos.take 0) out) := HJ
              clear hoi hb8 HTO e0 e1 e2 e3 HO HB HBX HJ hcb
              go_wp2_with fail
              obtain ⟨hz, hhz⟩ : ∃ hz, hz = wr.heap.size := ⟨_, rfl⟩
              rw [← hhz] at hwlt hgw HOI
              clear hhz
              go_loopw [7] (fun u7 wr => ∃ (k : Nat) (out : List Bool), u7 = .int .i64 k ∧ k ≤ tos.length ∧ Hid (RJ (bksOf l03) out0 i (tos.take k) out) ∧ Hid (OI wr hz (.slice At tos.length ct) tos) ∧ Hid (OB wr w.heap.size (.slice (some ⟨w.heap.size + 1, 0, none⟩) l03.length l03.length) out) ∧ Hid (Below w.heap.size w wr) ∧ Hid (BoxIs wr w.heap.size (bodyC s p A2 n2 c2 A3 l03.length c3) 25)) (fun u _ => tos.length - (intOf u).toNat)
              case atStart => exact ⟨0, out, rfl, Nat.zero_le _, HJ0, HOI, HO8, HB8, HX8⟩
              case round =>
                clear HJ0 HOI HO8 HB8 HX8
                obtain ⟨k, out, rfl, hk, HJ, HOI, HO, HB, HBX⟩ := hrel
                by_cases hlt2 : k < tos.length
                · obtain ⟨q, hq⟩ : ∃ q, tos[k]? = some q := ⟨_, List.getElem?_eq_getElem hlt2⟩
                  have hqm := List.mem_of_getElem? hq
                  obtain ⟨hq0, hq1⟩ := HMEM.out q hqm
                  obtain ⟨Q, rfl⟩ := Int.eq_ofNat_of_zero_le hq0
                  have hR := HRCH.out Q hqm
                  obtain ⟨gt, rfl, hct⟩ := OI.at2 HOI.out hq
                  have hol : out.length = l03.length := by rw [HJ.out.ri.len, HBL.out]
                  have hoe : wr.ownsRow w.heap.size 4 1 (.slice (some ⟨w.heap.size + 1, 0, none⟩) l03.length l03.length) l03.length (encs Value.bool out) := by
                    have h := HO.out
                    unfold OB at h
                    rwa [hol] at h
                  obtain ⟨hst, hgr⟩ := own_store_of (enc := Value.bool) hoe (Q : Int) true
                  obtain ⟨hcl', hfz⟩ := own_at_of (enc := Value.bool) (d := false) hoe (Q : Int) (by omega) (by omega)
                  rw [Int.toNat_natCast] at hst hgr hcl' hfz
                  have HST : Hid (OB (wr.setCell ⟨w.heap.size + 1, Q, none⟩ (.bool true)) w.heap.size (.slice (some ⟨w.heap.size + 1, 0, none⟩) l03.length l03.length) (out.set Q true)) := Lib.hid (by
                    unfold OB
                    rw [List.length_set, hol]
                    exact hst)
                  have HB2 := Lib.hid (HB.out.grown hgr HB.out.size (fun k hk => by injection hk with hk; omega))
                  have HX2 := Lib.hid (HBX.out.grown hgr (fun e => by injection e with e; omega))
                  have HO2 : Hid (OI (wr.setCell ⟨w.heap.size + 1, Q, none⟩ (.bool true)) hz (.slice (some ⟨gt, 0, none⟩) tos.length ct) tos) := Lib.hid (own_other HOI.out hgr (.inr (fun e => by
                    have h1 := own_base HOI.out gt rfl
                    have h2 : some gt = some (w.heap.size + 1) := e
                    injection h2 with h2
                    omega)))
                  have HJ2 : Hid (RJ (bksOf l03) out0 i (tos.take (k + 1)) (out.set Q true)) := Lib.hid (by
                    rw [List.take_succ, hq]
                    exact HJ.out.set (by omega) hR)
                  clear hq hqm hR hol hoe hst hgr HO HB HBX HOI HJ
                  go_wp2_with fail
                  go_roundw
                  case rel => exact ⟨k + 1, out.set Q true, by go_num, by omega, HJ2, HO2, HST, HB2, HX2⟩
                  case measure => first | (simp [intOf]; omega) | (simp [intOf]; done)
                · obtain rfl : k = tos.length := by omega
                  have HJ2 : Hid (RJ (bksOf l03) out0 (i + 1) [] out) := Lib.hid (by
                    have h := HJ.out
                    rw [List.take_length, HTOS.out] at h
                    exact h.next)
                  clear HJ hlt2 hk HOI HMEM HTOS HRCH
                  go_wp2_with fail
                  go_roundw
                  case rel => exact ⟨i + 1, out, by go_num, by omega, HJ2, HO, HB, HBX⟩
                  case measure => first | (simp [intOf]; omega) | (simp [intOf]; done)
          · obtain rfl : i = l03.length := by omega
            have HR1 : Hid (RR_ (bksOf l03) (r + 1) out) := Lib.hid (HR0.out.next (by rw [HBL.out]; exact HJ.out))
            clear hlt hi HJ HR0
            go_wp2_with fail
            go_roundw
            case rel => exact ⟨r + 1, out, by go_num, by omega, HR1, HO, HB, HBX⟩
            case measure => first | (simp [intOf]; omega) | (simp [intOf]; done)
      · obtain rfl : r = l03.length := by omega
        clear hltr hr
        go_wp2_with fail
        go_ret
        refine ⟨_, rfl, ?_, HB.out⟩
        have h := HR0.out
        rw [show l03.length = (bksOf l03).length from HBL.out.symm] at h
        rw [← h.all]
        exact HO.out
end Go.Proofs.Ythgnbeeobhfeaaa.T
end
