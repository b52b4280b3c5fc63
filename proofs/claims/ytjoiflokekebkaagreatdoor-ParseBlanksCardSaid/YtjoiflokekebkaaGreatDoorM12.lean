/- Texts of this claim in one file: Q2, Q3. -/
import Derived.Test.YtjoiflokekebkaaGreatDoorM10
import Derived.Test.YtjoiflokekebkaaGreatDoorM9
import Derived.Test.YtjoiflokekebkaaGreatDoorM11
set_option linter.all false
section
/- Walks: slices.EqualFunc, for statements and items. -/
namespace Go.Proofs.YtjoiflokekebkaaGreatDoor
open Go.RowKit

set_option maxRecDepth 100000 in
set_option maxHeartbeats 8000000 in
theorem equalStmt_any (l l' : List Stm) (u u' : Value) (q : Stm → Stm → Bool) (fn : Nat) (cap : Array Value) (W : World) (hs : See W u (.row 60 21 (l.map Stm.d))) (hs' : See W u' (.row 60 21 (l'.map Stm.d)))
    (he : ∀ args w, (callFunc fn args).run Tryz.prog w = .ok (.enter fn args) w)
    (hf : ∀ (i : Nat) (x y : Stm) (cs cs' : List Value) (w : World), l[i]? = some x → l'[i]? = some y → Below W.heap.size W w → Sees w cs x.d → Sees w cs' y.d → Calls Tryz.prog fn (#[.agg cs.toArray, .agg cs'.toArray] ++ cap) w fun e w' => e = .returned (.bool (q x y)) ∧ Below w.heap.size w w') :
    Calls Tryz.prog 67 #[u, u', .func (.func fn) #[] cap] W fun e w' => e = .returned (.bool (eqL q l l')) ∧ Below W.heap.size W w' := by
  obtain ⟨A, c, rfl, hlc, hcm⟩ := hs.formOf
  obtain ⟨A', c', rfl, hlc', hcm'⟩ := hs'.formOf
  have HS := Lib.hid hs
  have HS' := Lib.hid hs'
  have HF := Lib.hid hf
  have HN := Lib.hid he
  clear hs hs' hf he
  by_cases hne : l.length = l'.length
  case neg =>
    have HE := Lib.hid (eqL_len (q := q) hne)
    have hni : ¬ (l.length : Int) = (l'.length : Int) := by omega
    go_enter Tryz.func67, Tryz.ntmps67
    go_wp2_with fail
    go_ret
    exact ⟨by rw [HE.out]; rfl, Below.refl _ _⟩
  case pos =>
  rw [← hne] at HS' ⊢
  have HNE := Lib.hid hne
  clear hne
  go_enter Tryz.func67, Tryz.ntmps67
  go_wp2_with fail
  go_loopw [17] (fun v17 wr => ∃ i : Nat, v17 = .int .i64 i ∧ i ≤ l.length ∧ Hid (eqL q l l' = eqL q (l.drop i) (l'.drop i)) ∧ Hid (Below W.heap.size W wr)) (fun v17 _ => l.length - (intOf v17).toNat)
  case atStart => exact ⟨0, rfl, Nat.zero_le _, Lib.hid rfl, Lib.hid (Below.refl _ _)⟩
  case round =>
    obtain ⟨i, rfl, hi, hp, hb⟩ := hrel
    by_cases hlt : i < l.length
    · have htl : (i : Int) < (l.length : Int) := by omega
      obtain ⟨x, hx⟩ : ∃ t, l[i]? = some t := ⟨_, List.getElem?_eq_getElem hlt⟩
      obtain ⟨y, hy⟩ : ∃ t, l'[i]? = some t := ⟨_, List.getElem?_eq_getElem (by rw [← HNE.out]; exact hlt)⟩
      rw [eqL_drop hx hy] at hp
      obtain ⟨b, o, cs, rfl, hse, hrg⟩ := (HS.out.bel hb.out).elts (by rw [List.getElem?_map, hx]; rfl)
      obtain ⟨b', o', cs', rfl, hse', hrg'⟩ := (HS'.out.bel hb.out).elts (by rw [List.getElem?_map, hy]; rfl)
      have hcl : cs.length = 21 := by rw [hse.length, Stm.d_len]
      have hcl' : cs'.length = 21 := by rw [hse'.length, Stm.d_len]
      have RG : Hid (wr.rangeAt b (o + i * 21) cs) := Lib.hid hrg
      have RG' : Hid (wr.rangeAt b' (o' + i * 21) cs') := Lib.hid hrg'
      have CL := Lib.hid hcl
      have CL' := Lib.hid hcl'
      have SE := Lib.hid hse
      have SE' := Lib.hid hse'
      have HX := Lib.hid hx
      have HY := Lib.hid hy
      clear hx hy hse hse' hrg hrg' hcl hcl'
      go_upto_region 6 with (first
        | (with_reducible refine wpList_load_mid (op := ⟨some 21, .load 60 (.tmp 20), _, _, _, _⟩) rfl 60 _ rfl b (o + i * 21) rfl cs _ RG.out Tryz.underlying60 rfl (by rw [CL.out]; kernel_rfl) ?_)
        | (with_reducible refine wpList_store_row (o := ⟨none, .store 60 (.tmp 8) (.tmp 21), _, _, _, _⟩) rfl 60 _ _ rfl wr.heap.size cs.toArray rfl rfl 60 #[.int .i64 0, .int .i64 0, .string ⟨#[]⟩, .int .i64 0, .string ⟨#[]⟩, .slice none 0 0, .string ⟨#[]⟩, .slice none 0 0, .int .i64 0, .slice none 0 0, .string ⟨#[]⟩, .slice none 0 0, .string ⟨#[]⟩, .string ⟨#[]⟩, .bool false, .int .i64 0, .string ⟨#[]⟩, .slice none 0 0, .slice none 0 0, .slice none 0 0, .slice none 0 0] (heap_alloc_new wr _) (by rw [List.size_toArray, CL.out]; kernel_rfl) (by simp [CL.out]) (SE.out.one (Stm.d_one x)) ?_
           rw [World.setRow_alloc_new]))
      have hb1 := bel_box wr (.cells cs.toArray 60)
      have B1 := Lib.hid (bel_to hb.out hb.out.size hb1)
      have X1 : Hid (Bx 60 (wr.alloc (.cells cs.toArray 60)) wr.heap.size cs.toArray) := Lib.hid (Bx.newAt rfl)
      have RG1 := Lib.hid (range_bel RG'.out hb1)
      have T1 := Lib.hid (SE.out.below hb1)
      have T1' := Lib.hid (SE'.out.below hb1)
      clear hb1 RG RG' SE SE'
      generalize wr.alloc (.cells cs.toArray 60) = w1 at *
      generalize wr.heap.size = g1 at *
      go_upto_region 7 with (first
        | (with_reducible refine wpList_load_mid (op := ⟨some 25, .load 60 (.tmp 24), _, _, _, _⟩) rfl 60 _ rfl b' (o' + i * 21) rfl cs' _ RG1.out Tryz.underlying60 rfl (by rw [CL'.out]; kernel_rfl) ?_)
        | (with_reducible refine wpList_store_row (o := ⟨none, .store 60 (.tmp 9) (.tmp 25), _, _, _, _⟩) rfl 60 _ _ rfl w1.heap.size cs'.toArray rfl rfl 60 #[.int .i64 0, .int .i64 0, .string ⟨#[]⟩, .int .i64 0, .string ⟨#[]⟩, .slice none 0 0, .string ⟨#[]⟩, .slice none 0 0, .int .i64 0, .slice none 0 0, .string ⟨#[]⟩, .slice none 0 0, .string ⟨#[]⟩, .string ⟨#[]⟩, .bool false, .int .i64 0, .string ⟨#[]⟩, .slice none 0 0, .slice none 0 0, .slice none 0 0, .slice none 0 0] (heap_alloc_new w1 _) (by rw [List.size_toArray, CL'.out]; kernel_rfl) (by simp [CL'.out]) (T1'.out.one (Stm.d_one y)) ?_
           rw [World.setRow_alloc_new]))
      have hb2 := bel_box w1 (.cells cs'.toArray 60)
      have B2 := Lib.hid (bel_to B1.out B1.out.size hb2)
      have X2 := Lib.hid (X1.out.alloc (.cells cs'.toArray 60))
      have Y2 : Hid (Bx 60 (w1.alloc (.cells cs'.toArray 60)) w1.heap.size cs'.toArray) := Lib.hid (Bx.newAt rfl)
      have T2 := Lib.hid (T1.out.below hb2)
      have T2' := Lib.hid (T1'.out.below hb2)
      clear hb2 RG1 T1 T1' X1
      generalize w1.alloc (.cells cs'.toArray 60) = w2 at *
      generalize w1.heap.size = g2 at *
      have HX2 : Hid (w2.heap[g1]? = some (.cells cs.toArray 60 (0, 0))) := Lib.hid X2.out
      have HY2 : Hid (w2.heap[g2]? = some (.cells cs'.toArray 60 (0, 0))) := Lib.hid Y2.out
      go_wp2_with (first
        | (with_reducible refine wpList_load_row (o := ⟨some 27, .load 60 (.tmp 8), _, _, _, _⟩) rfl 60 _ rfl g1 rfl 60 cs.toArray (0, 0) _ HX2.out Tryz.underlying60 (by kernel_rfl) (by rw [List.size_toArray, CL.out]; kernel_rfl) ?_)
        | (with_reducible refine wpList_load_row (o := ⟨some 28, .load 60 (.tmp 9), _, _, _, _⟩) rfl 60 _ rfl g2 rfl 60 cs'.toArray (0, 0) _ HY2.out Tryz.underlying60 (by kernel_rfl) (by rw [List.size_toArray, CL'.out]; kernel_rfl) ?_))
      rw [HN.out, Oper.upon_enter]
      refine (HF.out i x y cs cs' w2 HX.out HY.out B2.out T2.out T2'.out).mono ?_
      rintro e w3 ⟨rfl, hb3⟩
      have B3 := Lib.hid (bel_to B2.out B2.out.size hb3)
      clear hb3 T2 T2' X2 Y2 B1 B2 hb
      generalize hq : q x y = r at *
      clear hq
      cases r with
      | true =>
        have HP2 : Hid (eqL q l l' = eqL q (l.drop (i + 1)) (l'.drop (i + 1))) := Lib.hid (by rw [hp.out]; rfl)
        go_wp2_with fail
        go_roundw
        case rel => exact ⟨i + 1, by go_num, by omega, HP2, B3⟩
        case measure => simp [intOf]; omega
      | false =>
        have HP2 : Hid (eqL q l l' = false) := Lib.hid (by rw [hp.out]; rfl)
        go_wp2_with fail
        go_ret
        exact ⟨by rw [HP2.out]; rfl, B3.out⟩
    · obtain rfl : i = l.length := by omega
      have HP2 : Hid (eqL q l l' = true) := Lib.hid (by
        have h := HNE.out
        rw [hp.out, List.drop_length, h, List.drop_length]; rfl)
      go_wp2_with fail
      go_ret
      exact ⟨by rw [HP2.out]; rfl, hb.out⟩
set_option maxRecDepth 100000 in
set_option maxHeartbeats 8000000 in
theorem equalArm_any (l l' : List Arm) (u u' : Value) (q : Arm → Arm → Bool) (fn : Nat) (cap : Array Value) (W : World) (hs : See W u (.row 95 3 (l.map Arm.d))) (hs' : See W u' (.row 95 3 (l'.map Arm.d)))
    (he : ∀ args w, (callFunc fn args).run Tryz.prog w = .ok (.enter fn args) w)
    (hf : ∀ (i : Nat) (x y : Arm) (cs cs' : List Value) (w : World), l[i]? = some x → l'[i]? = some y → Below W.heap.size W w → Sees w cs x.d → Sees w cs' y.d → Calls Tryz.prog fn (#[.agg cs.toArray, .agg cs'.toArray] ++ cap) w fun e w' => e = .returned (.bool (q x y)) ∧ Below w.heap.size w w') :
    Calls Tryz.prog 130 #[u, u', .func (.func fn) #[] cap] W fun e w' => e = .returned (.bool (eqL q l l')) ∧ Below W.heap.size W w' := by
  obtain ⟨A, c, rfl, hlc, hcm⟩ := hs.formOf
  obtain ⟨A', c', rfl, hlc', hcm'⟩ := hs'.formOf
  have HS := Lib.hid hs
  have HS' := Lib.hid hs'
  have HF := Lib.hid hf
  have HN := Lib.hid he
  clear hs hs' hf he
  by_cases hne : l.length = l'.length
  case neg =>
    have HE := Lib.hid (eqL_len (q := q) hne)
    have hni : ¬ (l.length : Int) = (l'.length : Int) := by omega
    go_enter Tryz.func130, Tryz.ntmps130
    go_wp2_with fail
    go_ret
    exact ⟨by rw [HE.out]; rfl, Below.refl _ _⟩
  case pos =>
  rw [← hne] at HS' ⊢
  have HNE := Lib.hid hne
  clear hne
  go_enter Tryz.func130, Tryz.ntmps130
  go_wp2_with fail
  go_loopw [17] (fun v17 wr => ∃ i : Nat, v17 = .int .i64 i ∧ i ≤ l.length ∧ Hid (eqL q l l' = eqL q (l.drop i) (l'.drop i)) ∧ Hid (Below W.heap.size W wr)) (fun v17 _ => l.length - (intOf v17).toNat)
  case atStart => exact ⟨0, rfl, Nat.zero_le _, Lib.hid rfl, Lib.hid (Below.refl _ _)⟩
  case round =>
    obtain ⟨i, rfl, hi, hp, hb⟩ := hrel
    by_cases hlt : i < l.length
    · have htl : (i : Int) < (l.length : Int) := by omega
      obtain ⟨x, hx⟩ : ∃ t, l[i]? = some t := ⟨_, List.getElem?_eq_getElem hlt⟩
      obtain ⟨y, hy⟩ : ∃ t, l'[i]? = some t := ⟨_, List.getElem?_eq_getElem (by rw [← HNE.out]; exact hlt)⟩
      rw [eqL_drop hx hy] at hp
      obtain ⟨b, o, cs, rfl, hse, hrg⟩ := (HS.out.bel hb.out).elts (by rw [List.getElem?_map, hx]; rfl)
      obtain ⟨b', o', cs', rfl, hse', hrg'⟩ := (HS'.out.bel hb.out).elts (by rw [List.getElem?_map, hy]; rfl)
      have hcl : cs.length = 3 := by rw [hse.length, Arm.d_len]
      have hcl' : cs'.length = 3 := by rw [hse'.length, Arm.d_len]
      have RG : Hid (wr.rangeAt b (o + i * 3) cs) := Lib.hid hrg
      have RG' : Hid (wr.rangeAt b' (o' + i * 3) cs') := Lib.hid hrg'
      have CL := Lib.hid hcl
      have CL' := Lib.hid hcl'
      have SE := Lib.hid hse
      have SE' := Lib.hid hse'
      have HX := Lib.hid hx
      have HY := Lib.hid hy
      clear hx hy hse hse' hrg hrg' hcl hcl'
      go_upto_region 6 with (first
        | (with_reducible refine wpList_load_mid (op := ⟨some 21, .load 95 (.tmp 20), _, _, _, _⟩) rfl 95 _ rfl b (o + i * 3) rfl cs _ RG.out Tryz.underlying95 rfl (by rw [CL.out]; kernel_rfl) ?_)
        | (with_reducible refine wpList_store_row (o := ⟨none, .store 95 (.tmp 8) (.tmp 21), _, _, _, _⟩) rfl 95 _ _ rfl wr.heap.size cs.toArray rfl rfl 95 #[.string ⟨#[]⟩, .string ⟨#[]⟩, .slice none 0 0] (heap_alloc_new wr _) (by rw [List.size_toArray, CL.out]; kernel_rfl) (by simp [CL.out]) (SE.out.one (Arm.d_one x)) ?_
           rw [World.setRow_alloc_new]))
      have hb1 := bel_box wr (.cells cs.toArray 95)
      have B1 := Lib.hid (bel_to hb.out hb.out.size hb1)
      have X1 : Hid (Bx 95 (wr.alloc (.cells cs.toArray 95)) wr.heap.size cs.toArray) := Lib.hid (Bx.newAt rfl)
      have RG1 := Lib.hid (range_bel RG'.out hb1)
      have T1 := Lib.hid (SE.out.below hb1)
      have T1' := Lib.hid (SE'.out.below hb1)
      clear hb1 RG RG' SE SE'
      generalize wr.alloc (.cells cs.toArray 95) = w1 at *
      generalize wr.heap.size = g1 at *
      go_upto_region 7 with (first
        | (with_reducible refine wpList_load_mid (op := ⟨some 25, .load 95 (.tmp 24), _, _, _, _⟩) rfl 95 _ rfl b' (o' + i * 3) rfl cs' _ RG1.out Tryz.underlying95 rfl (by rw [CL'.out]; kernel_rfl) ?_)
        | (with_reducible refine wpList_store_row (o := ⟨none, .store 95 (.tmp 9) (.tmp 25), _, _, _, _⟩) rfl 95 _ _ rfl w1.heap.size cs'.toArray rfl rfl 95 #[.string ⟨#[]⟩, .string ⟨#[]⟩, .slice none 0 0] (heap_alloc_new w1 _) (by rw [List.size_toArray, CL'.out]; kernel_rfl) (by simp [CL'.out]) (T1'.out.one (Arm.d_one y)) ?_
           rw [World.setRow_alloc_new]))
      have hb2 := bel_box w1 (.cells cs'.toArray 95)
      have B2 := Lib.hid (bel_to B1.out B1.out.size hb2)
      have X2 := Lib.hid (X1.out.alloc (.cells cs'.toArray 95))
      have Y2 : Hid (Bx 95 (w1.alloc (.cells cs'.toArray 95)) w1.heap.size cs'.toArray) := Lib.hid (Bx.newAt rfl)
      have T2 := Lib.hid (T1.out.below hb2)
      have T2' := Lib.hid (T1'.out.below hb2)
      clear hb2 RG1 T1 T1' X1
      generalize w1.alloc (.cells cs'.toArray 95) = w2 at *
      generalize w1.heap.size = g2 at *
      have HX2 : Hid (w2.heap[g1]? = some (.cells cs.toArray 95 (0, 0))) := Lib.hid X2.out
      have HY2 : Hid (w2.heap[g2]? = some (.cells cs'.toArray 95 (0, 0))) := Lib.hid Y2.out
      go_wp2_with (first
        | (with_reducible refine wpList_load_row (o := ⟨some 27, .load 95 (.tmp 8), _, _, _, _⟩) rfl 95 _ rfl g1 rfl 95 cs.toArray (0, 0) _ HX2.out Tryz.underlying95 (by kernel_rfl) (by rw [List.size_toArray, CL.out]; kernel_rfl) ?_)
        | (with_reducible refine wpList_load_row (o := ⟨some 28, .load 95 (.tmp 9), _, _, _, _⟩) rfl 95 _ rfl g2 rfl 95 cs'.toArray (0, 0) _ HY2.out Tryz.underlying95 (by kernel_rfl) (by rw [List.size_toArray, CL'.out]; kernel_rfl) ?_))
      rw [HN.out, Oper.upon_enter]
      refine (HF.out i x y cs cs' w2 HX.out HY.out B2.out T2.out T2'.out).mono ?_
      rintro e w3 ⟨rfl, hb3⟩
      have B3 := Lib.hid (bel_to B2.out B2.out.size hb3)
      clear hb3 T2 T2' X2 Y2 B1 B2 hb
      generalize hq : q x y = r at *
      clear hq
      cases r with
      | true =>
        have HP2 : Hid (eqL q l l' = eqL q (l.drop (i + 1)) (l'.drop (i + 1))) := Lib.hid (by rw [hp.out]; rfl)
        go_wp2_with fail
        go_roundw
        case rel => exact ⟨i + 1, by go_num, by omega, HP2, B3⟩
        case measure => simp [intOf]; omega
      | false =>
        have HP2 : Hid (eqL q l l' = false) := Lib.hid (by rw [hp.out]; rfl)
        go_wp2_with fail
        go_ret
        exact ⟨by rw [HP2.out]; rfl, B3.out⟩
    · obtain rfl : i = l.length := by omega
      have HP2 : Hid (eqL q l l' = true) := Lib.hid (by
        have h := HNE.out
        rw [hp.out, List.drop_length, h, List.drop_length]; rfl)
      go_wp2_with fail
      go_ret
      exact ⟨by rw [HP2.out]; rfl, hb.out⟩
set_option maxRecDepth 100000 in
set_option maxHeartbeats 8000000 in
theorem equalStruct_any (l l' : List Str) (u u' : Value) (q : Str → Str → Bool) (fn : Nat) (cap : Array Value) (W : World) (hs : See W u (.row 75 4 (l.map Str.d))) (hs' : See W u' (.row 75 4 (l'.map Str.d)))
    (he : ∀ args w, (callFunc fn args).run Tryz.prog w = .ok (.enter fn args) w)
    (hf : ∀ (i : Nat) (x y : Str) (cs cs' : List Value) (w : World), l[i]? = some x → l'[i]? = some y → Below W.heap.size W w → Sees w cs x.d → Sees w cs' y.d → Calls Tryz.prog fn (#[.agg cs.toArray, .agg cs'.toArray] ++ cap) w fun e w' => e = .returned (.bool (q x y)) ∧ Below w.heap.size w w') :
    Calls Tryz.prog 69 #[u, u', .func (.func fn) #[] cap] W fun e w' => e = .returned (.bool (eqL q l l')) ∧ Below W.heap.size W w' := by
  obtain ⟨A, c, rfl, hlc, hcm⟩ := hs.formOf
  obtain ⟨A', c', rfl, hlc', hcm'⟩ := hs'.formOf
  have HS := Lib.hid hs
  have HS' := Lib.hid hs'
  have HF := Lib.hid hf
  have HN := Lib.hid he
  clear hs hs' hf he
  by_cases hne : l.length = l'.length
  case neg =>
    have HE := Lib.hid (eqL_len (q := q) hne)
    have hni : ¬ (l.length : Int) = (l'.length : Int) := by omega
    go_enter Tryz.func69, Tryz.ntmps69
    go_wp2_with fail
    go_ret
    exact ⟨by rw [HE.out]; rfl, Below.refl _ _⟩
  case pos =>
  rw [← hne] at HS' ⊢
  have HNE := Lib.hid hne
  clear hne
  go_enter Tryz.func69, Tryz.ntmps69
  go_wp2_with fail
  go_loopw [17] (fun v17 wr => ∃ i : Nat, v17 = .int .i64 i ∧ i ≤ l.length ∧ Hid (eqL q l l' = eqL q (l.drop i) (l'.drop i)) ∧ Hid (Below W.heap.size W wr)) (fun v17 _ => l.length - (intOf v17).toNat)
  case atStart => exact ⟨0, rfl, Nat.zero_le _, Lib.hid rfl, Lib.hid (Below.refl _ _)⟩
  case round =>
    obtain ⟨i, rfl, hi, hp, hb⟩ := hrel
    by_cases hlt : i < l.length
    · have htl : (i : Int) < (l.length : Int) := by omega
      obtain ⟨x, hx⟩ : ∃ t, l[i]? = some t := ⟨_, List.getElem?_eq_getElem hlt⟩
      obtain ⟨y, hy⟩ : ∃ t, l'[i]? = some t := ⟨_, List.getElem?_eq_getElem (by rw [← HNE.out]; exact hlt)⟩
      rw [eqL_drop hx hy] at hp
      obtain ⟨b, o, cs, rfl, hse, hrg⟩ := (HS.out.bel hb.out).elts (by rw [List.getElem?_map, hx]; rfl)
      obtain ⟨b', o', cs', rfl, hse', hrg'⟩ := (HS'.out.bel hb.out).elts (by rw [List.getElem?_map, hy]; rfl)
      have hcl : cs.length = 4 := by rw [hse.length, Str.d_len]
      have hcl' : cs'.length = 4 := by rw [hse'.length, Str.d_len]
      have RG : Hid (wr.rangeAt b (o + i * 4) cs) := Lib.hid hrg
      have RG' : Hid (wr.rangeAt b' (o' + i * 4) cs') := Lib.hid hrg'
      have CL := Lib.hid hcl
      have CL' := Lib.hid hcl'
      have SE := Lib.hid hse
      have SE' := Lib.hid hse'
      have HX := Lib.hid hx
      have HY := Lib.hid hy
      clear hx hy hse hse' hrg hrg' hcl hcl'
      go_upto_region 6 with (first
        | (with_reducible refine wpList_load_mid (op := ⟨some 21, .load 75 (.tmp 20), _, _, _, _⟩) rfl 75 _ rfl b (o + i * 4) rfl cs _ RG.out Tryz.underlying75 rfl (by rw [CL.out]; kernel_rfl) ?_)
        | (with_reducible refine wpList_store_row (o := ⟨none, .store 75 (.tmp 8) (.tmp 21), _, _, _, _⟩) rfl 75 _ _ rfl wr.heap.size cs.toArray rfl rfl 75 #[.string ⟨#[]⟩, .bool false, .slice none 0 0, .int .i64 0] (heap_alloc_new wr _) (by rw [List.size_toArray, CL.out]; kernel_rfl) (by simp [CL.out]) (SE.out.one (Str.d_one x)) ?_
           rw [World.setRow_alloc_new]))
      have hb1 := bel_box wr (.cells cs.toArray 75)
      have B1 := Lib.hid (bel_to hb.out hb.out.size hb1)
      have X1 : Hid (Bx 75 (wr.alloc (.cells cs.toArray 75)) wr.heap.size cs.toArray) := Lib.hid (Bx.newAt rfl)
      have RG1 := Lib.hid (range_bel RG'.out hb1)
      have T1 := Lib.hid (SE.out.below hb1)
      have T1' := Lib.hid (SE'.out.below hb1)
      clear hb1 RG RG' SE SE'
      generalize wr.alloc (.cells cs.toArray 75) = w1 at *
      generalize wr.heap.size = g1 at *
      go_upto_region 7 with (first
        | (with_reducible refine wpList_load_mid (op := ⟨some 25, .load 75 (.tmp 24), _, _, _, _⟩) rfl 75 _ rfl b' (o' + i * 4) rfl cs' _ RG1.out Tryz.underlying75 rfl (by rw [CL'.out]; kernel_rfl) ?_)
        | (with_reducible refine wpList_store_row (o := ⟨none, .store 75 (.tmp 9) (.tmp 25), _, _, _, _⟩) rfl 75 _ _ rfl w1.heap.size cs'.toArray rfl rfl 75 #[.string ⟨#[]⟩, .bool false, .slice none 0 0, .int .i64 0] (heap_alloc_new w1 _) (by rw [List.size_toArray, CL'.out]; kernel_rfl) (by simp [CL'.out]) (T1'.out.one (Str.d_one y)) ?_
           rw [World.setRow_alloc_new]))
      have hb2 := bel_box w1 (.cells cs'.toArray 75)
      have B2 := Lib.hid (bel_to B1.out B1.out.size hb2)
      have X2 := Lib.hid (X1.out.alloc (.cells cs'.toArray 75))
      have Y2 : Hid (Bx 75 (w1.alloc (.cells cs'.toArray 75)) w1.heap.size cs'.toArray) := Lib.hid (Bx.newAt rfl)
      have T2 := Lib.hid (T1.out.below hb2)
      have T2' := Lib.hid (T1'.out.below hb2)
      clear hb2 RG1 T1 T1' X1
      generalize w1.alloc (.cells cs'.toArray 75) = w2 at *
      generalize w1.heap.size = g2 at *
      have HX2 : Hid (w2.heap[g1]? = some (.cells cs.toArray 75 (0, 0))) := Lib.hid X2.out
      have HY2 : Hid (w2.heap[g2]? = some (.cells cs'.toArray 75 (0, 0))) := Lib.hid Y2.out
      go_wp2_with (first
        | (with_reducible refine wpList_load_row (o := ⟨some 27, .load 75 (.tmp 8), _, _, _, _⟩) rfl 75 _ rfl g1 rfl 75 cs.toArray (0, 0) _ HX2.out Tryz.underlying75 (by kernel_rfl) (by rw [List.size_toArray, CL.out]; kernel_rfl) ?_)
        | (with_reducible refine wpList_load_row (o := ⟨some 28, .load 75 (.tmp 9), _, _, _, _⟩) rfl 75 _ rfl g2 rfl 75 cs'.toArray (0, 0) _ HY2.out Tryz.underlying75 (by kernel_rfl) (by rw [List.size_toArray, CL'.out]; kernel_rfl) ?_))
      rw [HN.out, Oper.upon_enter]
      refine (HF.out i x y cs cs' w2 HX.out HY.out B2.out T2.out T2'.out).mono ?_
      rintro e w3 ⟨rfl, hb3⟩
      have B3 := Lib.hid (bel_to B2.out B2.out.size hb3)
      clear hb3 T2 T2' X2 Y2 B1 B2 hb
      generalize hq : q x y = r at *
      clear hq
      cases r with
      | true =>
        have HP2 : Hid (eqL q l l' = eqL q (l.drop (i + 1)) (l'.drop (i + 1))) := Lib.hid (by rw [hp.out]; rfl)
        go_wp2_with fail
        go_roundw
        case rel => exact ⟨i + 1, by go_num, by omega, HP2, B3⟩
        case measure => simp [intOf]; omega
      | false =>
        have HP2 : Hid (eqL q l l' = false) := Lib.hid (by rw [hp.out]; rfl)
        go_wp2_with fail
        go_ret
        exact ⟨by rw [HP2.out]; rfl, B3.out⟩
    · obtain rfl : i = l.length := by omega
      have HP2 : Hid (eqL q l l' = true) := Lib.hid (by
        have h := HNE.out
        rw [hp.out, List.drop_length, h, List.drop_length]; rfl)
      go_wp2_with fail
      go_ret
      exact ⟨by rw [HP2.out]; rfl, hb.out⟩
set_option maxRecDepth 100000 in
set_option maxHeartbeats 8000000 in
theorem equalEnum_any (l l' : List Enm) (u u' : Value) (q : Enm → Enm → Bool) (fn : Nat) (cap : Array Value) (W : World) (hs : See W u (.row 85 3 (l.map Enm.d))) (hs' : See W u' (.row 85 3 (l'.map Enm.d)))
    (he : ∀ args w, (callFunc fn args).run Tryz.prog w = .ok (.enter fn args) w)
    (hf : ∀ (i : Nat) (x y : Enm) (cs cs' : List Value) (w : World), l[i]? = some x → l'[i]? = some y → Below W.heap.size W w → Sees w cs x.d → Sees w cs' y.d → Calls Tryz.prog fn (#[.agg cs.toArray, .agg cs'.toArray] ++ cap) w fun e w' => e = .returned (.bool (q x y)) ∧ Below w.heap.size w w') :
    Calls Tryz.prog 70 #[u, u', .func (.func fn) #[] cap] W fun e w' => e = .returned (.bool (eqL q l l')) ∧ Below W.heap.size W w' := by
  obtain ⟨A, c, rfl, hlc, hcm⟩ := hs.formOf
  obtain ⟨A', c', rfl, hlc', hcm'⟩ := hs'.formOf
  have HS := Lib.hid hs
  have HS' := Lib.hid hs'
  have HF := Lib.hid hf
  have HN := Lib.hid he
  clear hs hs' hf he
  by_cases hne : l.length = l'.length
  case neg =>
    have HE := Lib.hid (eqL_len (q := q) hne)
    have hni : ¬ (l.length : Int) = (l'.length : Int) := by omega
    go_enter Tryz.func70, Tryz.ntmps70
    go_wp2_with fail
    go_ret
    exact ⟨by rw [HE.out]; rfl, Below.refl _ _⟩
  case pos =>
  rw [← hne] at HS' ⊢
  have HNE := Lib.hid hne
  clear hne
  go_enter Tryz.func70, Tryz.ntmps70
  go_wp2_with fail
  go_loopw [17] (fun v17 wr => ∃ i : Nat, v17 = .int .i64 i ∧ i ≤ l.length ∧ Hid (eqL q l l' = eqL q (l.drop i) (l'.drop i)) ∧ Hid (Below W.heap.size W wr)) (fun v17 _ => l.length - (intOf v17).toNat)
  case atStart => exact ⟨0, rfl, Nat.zero_le _, Lib.hid rfl, Lib.hid (Below.refl _ _)⟩
  case round =>
    obtain ⟨i, rfl, hi, hp, hb⟩ := hrel
    by_cases hlt : i < l.length
    · have htl : (i : Int) < (l.length : Int) := by omega
      obtain ⟨x, hx⟩ : ∃ t, l[i]? = some t := ⟨_, List.getElem?_eq_getElem hlt⟩
      obtain ⟨y, hy⟩ : ∃ t, l'[i]? = some t := ⟨_, List.getElem?_eq_getElem (by rw [← HNE.out]; exact hlt)⟩
      rw [eqL_drop hx hy] at hp
      obtain ⟨b, o, cs, rfl, hse, hrg⟩ := (HS.out.bel hb.out).elts (by rw [List.getElem?_map, hx]; rfl)
      obtain ⟨b', o', cs', rfl, hse', hrg'⟩ := (HS'.out.bel hb.out).elts (by rw [List.getElem?_map, hy]; rfl)
      have hcl : cs.length = 3 := by rw [hse.length, Enm.d_len]
      have hcl' : cs'.length = 3 := by rw [hse'.length, Enm.d_len]
      have RG : Hid (wr.rangeAt b (o + i * 3) cs) := Lib.hid hrg
      have RG' : Hid (wr.rangeAt b' (o' + i * 3) cs') := Lib.hid hrg'
      have CL := Lib.hid hcl
      have CL' := Lib.hid hcl'
      have SE := Lib.hid hse
      have SE' := Lib.hid hse'
      have HX := Lib.hid hx
      have HY := Lib.hid hy
      clear hx hy hse hse' hrg hrg' hcl hcl'
      go_upto_region 6 with (first
        | (with_reducible refine wpList_load_mid (op := ⟨some 21, .load 85 (.tmp 20), _, _, _, _⟩) rfl 85 _ rfl b (o + i * 3) rfl cs _ RG.out Tryz.underlying85 rfl (by rw [CL.out]; kernel_rfl) ?_)
        | (with_reducible refine wpList_store_row (o := ⟨none, .store 85 (.tmp 8) (.tmp 21), _, _, _, _⟩) rfl 85 _ _ rfl wr.heap.size cs.toArray rfl rfl 85 #[.string ⟨#[]⟩, .slice none 0 0, .int .i64 0] (heap_alloc_new wr _) (by rw [List.size_toArray, CL.out]; kernel_rfl) (by simp [CL.out]) (SE.out.one (Enm.d_one x)) ?_
           rw [World.setRow_alloc_new]))
      have hb1 := bel_box wr (.cells cs.toArray 85)
      have B1 := Lib.hid (bel_to hb.out hb.out.size hb1)
      have X1 : Hid (Bx 85 (wr.alloc (.cells cs.toArray 85)) wr.heap.size cs.toArray) := Lib.hid (Bx.newAt rfl)
      have RG1 := Lib.hid (range_bel RG'.out hb1)
      have T1 := Lib.hid (SE.out.below hb1)
      have T1' := Lib.hid (SE'.out.below hb1)
      clear hb1 RG RG' SE SE'
      generalize wr.alloc (.cells cs.toArray 85) = w1 at *
      generalize wr.heap.size = g1 at *
      go_upto_region 7 with (first
        | (with_reducible refine wpList_load_mid (op := ⟨some 25, .load 85 (.tmp 24), _, _, _, _⟩) rfl 85 _ rfl b' (o' + i * 3) rfl cs' _ RG1.out Tryz.underlying85 rfl (by rw [CL'.out]; kernel_rfl) ?_)
        | (with_reducible refine wpList_store_row (o := ⟨none, .store 85 (.tmp 9) (.tmp 25), _, _, _, _⟩) rfl 85 _ _ rfl w1.heap.size cs'.toArray rfl rfl 85 #[.string ⟨#[]⟩, .slice none 0 0, .int .i64 0] (heap_alloc_new w1 _) (by rw [List.size_toArray, CL'.out]; kernel_rfl) (by simp [CL'.out]) (T1'.out.one (Enm.d_one y)) ?_
           rw [World.setRow_alloc_new]))
      have hb2 := bel_box w1 (.cells cs'.toArray 85)
      have B2 := Lib.hid (bel_to B1.out B1.out.size hb2)
      have X2 := Lib.hid (X1.out.alloc (.cells cs'.toArray 85))
      have Y2 : Hid (Bx 85 (w1.alloc (.cells cs'.toArray 85)) w1.heap.size cs'.toArray) := Lib.hid (Bx.newAt rfl)
      have T2 := Lib.hid (T1.out.below hb2)
      have T2' := Lib.hid (T1'.out.below hb2)
      clear hb2 RG1 T1 T1' X1
      generalize w1.alloc (.cells cs'.toArray 85) = w2 at *
      generalize w1.heap.size = g2 at *
      have HX2 : Hid (w2.heap[g1]? = some (.cells cs.toArray 85 (0, 0))) := Lib.hid X2.out
      have HY2 : Hid (w2.heap[g2]? = some (.cells cs'.toArray 85 (0, 0))) := Lib.hid Y2.out
      go_wp2_with (first
        | (with_reducible refine wpList_load_row (o := ⟨some 27, .load 85 (.tmp 8), _, _, _, _⟩) rfl 85 _ rfl g1 rfl 85 cs.toArray (0, 0) _ HX2.out Tryz.underlying85 (by kernel_rfl) (by rw [List.size_toArray, CL.out]; kernel_rfl) ?_)
        | (with_reducible refine wpList_load_row (o := ⟨some 28, .load 85 (.tmp 9), _, _, _, _⟩) rfl 85 _ rfl g2 rfl 85 cs'.toArray (0, 0) _ HY2.out Tryz.underlying85 (by kernel_rfl) (by rw [List.size_toArray, CL'.out]; kernel_rfl) ?_))
      rw [HN.out, Oper.upon_enter]
      refine (HF.out i x y cs cs' w2 HX.out HY.out B2.out T2.out T2'.out).mono ?_
      rintro e w3 ⟨rfl, hb3⟩
      have B3 := Lib.hid (bel_to B2.out B2.out.size hb3)
      clear hb3 T2 T2' X2 Y2 B1 B2 hb
      generalize hq : q x y = r at *
      clear hq
      cases r with
      | true =>
        have HP2 : Hid (eqL q l l' = eqL q (l.drop (i + 1)) (l'.drop (i + 1))) := Lib.hid (by rw [hp.out]; rfl)
        go_wp2_with fail
        go_roundw
        case rel => exact ⟨i + 1, by go_num, by omega, HP2, B3⟩
        case measure => simp [intOf]; omega
      | false =>
        have HP2 : Hid (eqL q l l' = false) := Lib.hid (by rw [hp.out]; rfl)
        go_wp2_with fail
        go_ret
        exact ⟨by rw [HP2.out]; rfl, B3.out⟩
    · obtain rfl : i = l.length := by omega
      have HP2 : Hid (eqL q l l' = true) := Lib.hid (by
        have h := HNE.out
        rw [hp.out, List.drop_length, h, List.drop_length]; rfl)
      go_wp2_with fail
      go_ret
      exact ⟨by rw [HP2.out]; rfl, hb.out⟩
set_option maxRecDepth 100000 in
set_option maxHeartbeats 8000000 in
theorem equalFn_any (l l' : List Fnc) (u u' : Value) (q : Fnc → Fnc → Bool) (fn : Nat) (cap : Array Value) (W : World) (hs : See W u (.row 50 4 (l.map Fnc.d))) (hs' : See W u' (.row 50 4 (l'.map Fnc.d)))
    (he : ∀ args w, (callFunc fn args).run Tryz.prog w = .ok (.enter fn args) w)
    (hf : ∀ (i : Nat) (x y : Fnc) (cs cs' : List Value) (w : World), l[i]? = some x → l'[i]? = some y → Below W.heap.size W w → Sees w cs x.d → Sees w cs' y.d → Calls Tryz.prog fn (#[.agg cs.toArray, .agg cs'.toArray] ++ cap) w fun e w' => e = .returned (.bool (q x y)) ∧ Below w.heap.size w w') :
    Calls Tryz.prog 71 #[u, u', .func (.func fn) #[] cap] W fun e w' => e = .returned (.bool (eqL q l l')) ∧ Below W.heap.size W w' := by
  obtain ⟨A, c, rfl, hlc, hcm⟩ := hs.formOf
  obtain ⟨A', c', rfl, hlc', hcm'⟩ := hs'.formOf
  have HS := Lib.hid hs
  have HS' := Lib.hid hs'
  have HF := Lib.hid hf
  have HN := Lib.hid he
  clear hs hs' hf he
  by_cases hne : l.length = l'.length
  case neg =>
    have HE := Lib.hid (eqL_len (q := q) hne)
    have hni : ¬ (l.length : Int) = (l'.length : Int) := by omega
    go_enter Tryz.func71, Tryz.ntmps71
    go_wp2_with fail
    go_ret
    exact ⟨by rw [HE.out]; rfl, Below.refl _ _⟩
  case pos =>
  rw [← hne] at HS' ⊢
  have HNE := Lib.hid hne
  clear hne
  go_enter Tryz.func71, Tryz.ntmps71
  go_wp2_with fail
  go_loopw [17] (fun v17 wr => ∃ i : Nat, v17 = .int .i64 i ∧ i ≤ l.length ∧ Hid (eqL q l l' = eqL q (l.drop i) (l'.drop i)) ∧ Hid (Below W.heap.size W wr)) (fun v17 _ => l.length - (intOf v17).toNat)
  case atStart => exact ⟨0, rfl, Nat.zero_le _, Lib.hid rfl, Lib.hid (Below.refl _ _)⟩
  case round =>
    obtain ⟨i, rfl, hi, hp, hb⟩ := hrel
    by_cases hlt : i < l.length
    · have htl : (i : Int) < (l.length : Int) := by omega
      obtain ⟨x, hx⟩ : ∃ t, l[i]? = some t := ⟨_, List.getElem?_eq_getElem hlt⟩
      obtain ⟨y, hy⟩ : ∃ t, l'[i]? = some t := ⟨_, List.getElem?_eq_getElem (by rw [← HNE.out]; exact hlt)⟩
      rw [eqL_drop hx hy] at hp
      obtain ⟨b, o, cs, rfl, hse, hrg⟩ := (HS.out.bel hb.out).elts (by rw [List.getElem?_map, hx]; rfl)
      obtain ⟨b', o', cs', rfl, hse', hrg'⟩ := (HS'.out.bel hb.out).elts (by rw [List.getElem?_map, hy]; rfl)
      have hcl : cs.length = 4 := by rw [hse.length, Fnc.d_len]
      have hcl' : cs'.length = 4 := by rw [hse'.length, Fnc.d_len]
      have RG : Hid (wr.rangeAt b (o + i * 4) cs) := Lib.hid hrg
      have RG' : Hid (wr.rangeAt b' (o' + i * 4) cs') := Lib.hid hrg'
      have CL := Lib.hid hcl
      have CL' := Lib.hid hcl'
      have SE := Lib.hid hse
      have SE' := Lib.hid hse'
      have HX := Lib.hid hx
      have HY := Lib.hid hy
      clear hx hy hse hse' hrg hrg' hcl hcl'
      go_upto_region 6 with (first
        | (with_reducible refine wpList_load_mid (op := ⟨some 21, .load 50 (.tmp 20), _, _, _, _⟩) rfl 50 _ rfl b (o + i * 4) rfl cs _ RG.out Tryz.underlying50 rfl (by rw [CL.out]; kernel_rfl) ?_)
        | (with_reducible refine wpList_store_row (o := ⟨none, .store 50 (.tmp 8) (.tmp 21), _, _, _, _⟩) rfl 50 _ _ rfl wr.heap.size cs.toArray rfl rfl 50 #[.string ⟨#[]⟩, .slice none 0 0, .slice none 0 0, .int .i64 0] (heap_alloc_new wr _) (by rw [List.size_toArray, CL.out]; kernel_rfl) (by simp [CL.out]) (SE.out.one (Fnc.d_one x)) ?_
           rw [World.setRow_alloc_new]))
      have hb1 := bel_box wr (.cells cs.toArray 50)
      have B1 := Lib.hid (bel_to hb.out hb.out.size hb1)
      have X1 : Hid (Bx 50 (wr.alloc (.cells cs.toArray 50)) wr.heap.size cs.toArray) := Lib.hid (Bx.newAt rfl)
      have RG1 := Lib.hid (range_bel RG'.out hb1)
      have T1 := Lib.hid (SE.out.below hb1)
      have T1' := Lib.hid (SE'.out.below hb1)
      clear hb1 RG RG' SE SE'
      generalize wr.alloc (.cells cs.toArray 50) = w1 at *
      generalize wr.heap.size = g1 at *
      go_upto_region 7 with (first
        | (with_reducible refine wpList_load_mid (op := ⟨some 25, .load 50 (.tmp 24), _, _, _, _⟩) rfl 50 _ rfl b' (o' + i * 4) rfl cs' _ RG1.out Tryz.underlying50 rfl (by rw [CL'.out]; kernel_rfl) ?_)
        | (with_reducible refine wpList_store_row (o := ⟨none, .store 50 (.tmp 9) (.tmp 25), _, _, _, _⟩) rfl 50 _ _ rfl w1.heap.size cs'.toArray rfl rfl 50 #[.string ⟨#[]⟩, .slice none 0 0, .slice none 0 0, .int .i64 0] (heap_alloc_new w1 _) (by rw [List.size_toArray, CL'.out]; kernel_rfl) (by simp [CL'.out]) (T1'.out.one (Fnc.d_one y)) ?_
           rw [World.setRow_alloc_new]))
      have hb2 := bel_box w1 (.cells cs'.toArray 50)
      have B2 := Lib.hid (bel_to B1.out B1.out.size hb2)
      have X2 := Lib.hid (X1.out.alloc (.cells cs'.toArray 50))
      have Y2 : Hid (Bx 50 (w1.alloc (.cells cs'.toArray 50)) w1.heap.size cs'.toArray) := Lib.hid (Bx.newAt rfl)
      have T2 := Lib.hid (T1.out.below hb2)
      have T2' := Lib.hid (T1'.out.below hb2)
      clear hb2 RG1 T1 T1' X1
      generalize w1.alloc (.cells cs'.toArray 50) = w2 at *
      generalize w1.heap.size = g2 at *
      have HX2 : Hid (w2.heap[g1]? = some (.cells cs.toArray 50 (0, 0))) := Lib.hid X2.out
      have HY2 : Hid (w2.heap[g2]? = some (.cells cs'.toArray 50 (0, 0))) := Lib.hid Y2.out
      go_wp2_with (first
        | (with_reducible refine wpList_load_row (o := ⟨some 27, .load 50 (.tmp 8), _, _, _, _⟩) rfl 50 _ rfl g1 rfl 50 cs.toArray (0, 0) _ HX2.out Tryz.underlying50 (by kernel_rfl) (by rw [List.size_toArray, CL.out]; kernel_rfl) ?_)
        | (with_reducible refine wpList_load_row (o := ⟨some 28, .load 50 (.tmp 9), _, _, _, _⟩) rfl 50 _ rfl g2 rfl 50 cs'.toArray (0, 0) _ HY2.out Tryz.underlying50 (by kernel_rfl) (by rw [List.size_toArray, CL'.out]; kernel_rfl) ?_))
      rw [HN.out, Oper.upon_enter]
      refine (HF.out i x y cs cs' w2 HX.out HY.out B2.out T2.out T2'.out).mono ?_
      rintro e w3 ⟨rfl, hb3⟩
      have B3 := Lib.hid (bel_to B2.out B2.out.size hb3)
      clear hb3 T2 T2' X2 Y2 B1 B2 hb
      generalize hq : q x y = r at *
      clear hq
      cases r with
      | true =>
        have HP2 : Hid (eqL q l l' = eqL q (l.drop (i + 1)) (l'.drop (i + 1))) := Lib.hid (by rw [hp.out]; rfl)
        go_wp2_with fail
        go_roundw
        case rel => exact ⟨i + 1, by go_num, by omega, HP2, B3⟩
        case measure => simp [intOf]; omega
      | false =>
        have HP2 : Hid (eqL q l l' = false) := Lib.hid (by rw [hp.out]; rfl)
        go_wp2_with fail
        go_ret
        exact ⟨by rw [HP2.out]; rfl, B3.out⟩
    · obtain rfl : i = l.length := by omega
      have HP2 : Hid (eqL q l l' = true) := Lib.hid (by
        have h := HNE.out
        rw [hp.out, List.drop_length, h, List.drop_length]; rfl)
      go_wp2_with fail
      go_ret
      exact ⟨by rw [HP2.out]; rfl, hb.out⟩
end Go.Proofs.YtjoiflokekebkaaGreatDoor
end

section
/- Walks: tree.Same, of two that are the same but for places. -/
namespace Go.Proofs.YtjoiflokekebkaaGreatDoor
open Go.RowKit

theorem eqL_true {α : Type} : ∀ {l l' : List α}, l.length = l'.length → eqL (fun _ _ => true) l l' = true
  | [], [], _ => rfl
  | _ :: r, _ :: s, h => by rw [eqL, eqL_true (by simpa using h)]; rfl
  | [], _ :: _, h => by simp at h
  | _ :: _, [], h => by simp at h
/-- A function finds two the same, wherever they lie. -/
def SameC {α : Type} (fn : Nat) (d : α → List D) (x y : α) : Prop := ∀ (cs cs' : List Value) (w : World), Sees w cs (d x) → Sees w cs' (d y) → Calls Tryz.prog fn #[.agg cs.toArray, .agg cs'.toArray] w fun e w' => e = .returned (.bool true) ∧ Below w.heap.size w w'
theorem Plc.open {W : World} {cs : List Value} {p : Plc} (h : Sees W cs p.d) : ∃ u, cs = [.string p.n, u] ∧ See W u (.row 104 1 (p.p.map stepD)) := by
  match cs, h with
  | [a, u], h =>
    obtain ⟨h1, h2, _⟩ := h
    obtain rfl := h1.v_eq
    exact ⟨u, rfl, h2⟩
theorem Opr.open {W : World} {cs : List Value} {p : Opr} (h : Sees W cs p.d) : ∃ u, cs = [.bool p.num, .int .i64 p.n, .string p.p.n, u] ∧ See W u (.row 104 1 (p.p.p.map stepD)) := by
  match cs, h with
  | [a, b, c, u], h =>
    obtain ⟨h1, h2, h3, h4, _⟩ := h
    obtain rfl := h1.v_eq
    obtain rfl := h2.v_eq
    obtain rfl := h3.v_eq
    exact ⟨u, rfl, h4⟩
theorem Rvl.open {W : World} {cs : List Value} {v : Rvl} (h : Sees W cs v.d) : ∃ u1 u2, cs = [.int .i64 v.k, u1, .string v.p.n, u2, .string v.n, .string v.v] ∧ See W u1 (.row 53 4 (v.ops.map Opr.d)) ∧ See W u2 (.row 104 1 (v.p.p.map stepD)) := by
  match cs, h with
  | [a, b, c, d, e, f], h =>
    obtain ⟨h1, h2, h3, h4, h5, h6, _⟩ := h
    obtain rfl := h1.v_eq
    obtain rfl := h3.v_eq
    obtain rfl := h5.v_eq
    obtain rfl := h6.v_eq
    exact ⟨b, d, rfl, h2, h4⟩
theorem Arm.open {W : World} {cs : List Value} {v b : ByteArray} {l : List Stm} (h : Sees W cs (Arm.mk v b l).d) : ∃ u, cs = [.string v, .string b, u] ∧ See W u (.row 60 21 (l.map Stm.d)) := by
  simp only [Arm.d, Stm.ds_map] at h
  match cs, h with
  | [x, y, u], h =>
    obtain ⟨h1, h2, h3, _⟩ := h
    obtain rfl := h1.v_eq
    obtain rfl := h2.v_eq
    exact ⟨u, rfl, h3⟩
theorem Sees.split {W : World} : ∀ {cs : List Value} {a b : List D}, Sees W cs (a ++ b) → ∃ c1 c2, cs = c1 ++ c2 ∧ Sees W c1 a ∧ Sees W c2 b
  | cs, [], b, h => ⟨[], cs, rfl, trivial, h⟩
  | [], _ :: _, _, h => h.elim
  | x :: cs, d :: a, b, h => by
    obtain ⟨c1, c2, rfl, h1, h2⟩ := Sees.split h.2
    exact ⟨x :: c1, c2, rfl, ⟨h.1, h1⟩, h2⟩
theorem Sees.join {W : World} : ∀ {c1 c2 : List Value} {a b : List D}, Sees W c1 a → Sees W c2 b → Sees W (c1 ++ c2) (a ++ b)
  | [], _, [], _, _, h => h
  | _ :: _, _, _ :: _, _, h, h' => ⟨h.1, Sees.join h.2 h'⟩
  | [], _, _ :: _, _, h, _ => h.elim
  | _ :: _, _, [], _, h, _ => h.elim
theorem Stm.open {W : World} {cs : List Value} {k a : Int} {n : ByteArray} {t : Ty} {p : Plc} {rv : Rvl} {op : Opr} {th el : List Stm} {arms : List Arm} (h : Sees W cs (Stm.mk k a n t p rv op th el arms).d) :
    ∃ ut up uo urp uop u1 u2 u3, cs = [.int .i64 k, .int .i64 a, .string n, .int .i64 t.k, .string t.n, ut, .string p.n, up, .int .i64 rv.k, uo, .string rv.p.n, urp, .string rv.n, .string rv.v, .bool op.num, .int .i64 op.n, .string op.p.n, uop, u1, u2, u3] ∧
      Sees W [.int .i64 t.k, .string t.n, ut] t.d ∧ Sees W [.string p.n, up] p.d ∧ Sees W [.int .i64 rv.k, uo, .string rv.p.n, urp, .string rv.n, .string rv.v] rv.d ∧ Sees W [.bool op.num, .int .i64 op.n, .string op.p.n, uop] op.d ∧
      See W u1 (.row 60 21 (th.map Stm.d)) ∧ See W u2 (.row 60 21 (el.map Stm.d)) ∧ See W u3 (.row 95 3 (arms.map Arm.d)) := by
  simp only [Stm.d, Stm.ds_map, Arm.ds_map] at h
  match cs, h with
  | x :: y :: z :: cs, h =>
    obtain ⟨h1, h2, h3, h⟩ := h
    obtain rfl := h1.v_eq
    obtain rfl := h2.v_eq
    obtain rfl := h3.v_eq
    obtain ⟨c1, ca, rfl, t1, ha⟩ := h.split
    obtain ⟨c2, cb, rfl, t2, hb⟩ := ha.split
    obtain ⟨c3, cc, rfl, t3, hc⟩ := hb.split
    obtain ⟨c4, cd, rfl, t4, hd⟩ := hc.split
    clear h ha hb hc
    obtain ⟨ut, rfl, _⟩ := Ty.open t1
    obtain ⟨up, rfl, _⟩ := Plc.open t2
    obtain ⟨uo, urp, rfl, _⟩ := Rvl.open t3
    obtain ⟨uop, rfl, _⟩ := Opr.open t4
    match cd, hd with
    | [u1, u2, u3], hd =>
      obtain ⟨h5, h6, h7, _⟩ := hd
      exact ⟨ut, up, uo, urp, uop, u1, u2, u3, rfl, t1, t2, t3, t4, h5, h6, h7⟩
theorem step_at {W : World} {A : Option Addr} {n c i : Nat} {l : List ByteArray} {x : ByteArray} (h : See W (.slice A n c) (.row 104 1 (l.map stepD))) (hi : l[i]? = some x) : ∃ b o, A = some ⟨b, o, none⟩ ∧ W.cell? ⟨b, o + i, none⟩ = some (.string x) := by
  obtain ⟨b, o, hA, hx⟩ := h.elt (ds := stepD x) (by rw [List.getElem?_map, hi]; rfl)
  obtain ⟨y, h1, h2⟩ := hx 0 _ rfl
  obtain rfl := h2.v_eq
  exact ⟨b, o, hA, by simpa using h1⟩
set_option maxRecDepth 100000 in
set_option maxHeartbeats 4000000 in
theorem sSteps_any (l : List ByteArray) (u u' : Value) (W : World) (hs : See W u (.row 104 1 (l.map stepD))) (hs' : See W u' (.row 104 1 (l.map stepD))) :
    Calls Tryz.prog 181 #[u, u'] W fun e w' => e = .returned (.bool true) ∧ Below W.heap.size W w' := by
  obtain ⟨A, c, rfl, hlc, hcm⟩ := hs.formOf
  obtain ⟨A', c', rfl, hlc', hcm'⟩ := hs'.formOf
  have HS := Lib.hid hs
  have HS' := Lib.hid hs'
  clear hs hs'
  go_enter Tryz.func181, Tryz.ntmps181
  go_wp2_with fail
  go_loopw [13] (fun v wr => ∃ i : Nat, v = .int .i64 i ∧ i ≤ l.length ∧ Hid (Below W.heap.size W wr)) (fun v _ => l.length - (intOf v).toNat)
  case atStart => exact ⟨0, rfl, Nat.zero_le _, Lib.hid (Below.refl _ _)⟩
  case round =>
    obtain ⟨i, rfl, hi, hb⟩ := hrel
    by_cases hlt : i < l.length
    · have htl : (i : Int) < (l.length : Int) := by omega
      obtain ⟨x, hx⟩ : ∃ t, l[i]? = some t := ⟨_, List.getElem?_eq_getElem hlt⟩
      obtain ⟨b, o, rfl, k1⟩ := step_at (HS.out.bel hb.out) hx
      obtain ⟨b', o', rfl, k2⟩ := step_at (HS'.out.bel hb.out) hx
      have hxx : (x.toList != x.toList) = false := by simp
      go_wp2_with fail
      go_quiet (fail)
      have hb2 := Lib.hid (bel_drewN hb.out nq)
      clear hx k1 k2 hb
      go_wp2_with fail
      go_roundw
      case rel => exact ⟨i + 1, by go_num, by omega, hb2⟩
      case measure => simp [intOf]; omega
    · obtain rfl : i = l.length := by omega
      go_wp2_with fail
      go_ret
      exact ⟨rfl, hb.out⟩
theorem rowField_same (l l' : List Fld) (u u' : Value) (fn : Nat) (W : World) (hs : See W u (.row 79 4 (l.map Fld.d))) (hs' : See W u' (.row 79 4 (l'.map Fld.d)))
    (he : ∀ args w, (callFunc fn args).run Tryz.prog w = .ok (.enter fn args) w) (hl : l.length = l'.length) (hf : ∀ (i : Nat) (x y : Fld), l[i]? = some x → l'[i]? = some y → SameC fn Fld.d x y) :
    Calls Tryz.prog 60 #[u, u', .func (.func fn) #[] #[]] W fun e w' => e = .returned (.bool true) ∧ Below W.heap.size W w' :=
  (equalField_any l l' u u' (fun _ _ => true) fn #[] W hs hs' he (fun i x y cs cs' w hx hy _ h h' => by simpa using hf i x y hx hy cs cs' w h h')).mono (fun e w' h => ⟨by rw [h.1, eqL_true hl], h.2⟩)
theorem rowVariant_same (l l' : List Fld) (u u' : Value) (fn : Nat) (W : World) (hs : See W u (.row 86 4 (l.map Fld.d))) (hs' : See W u' (.row 86 4 (l'.map Fld.d)))
    (he : ∀ args w, (callFunc fn args).run Tryz.prog w = .ok (.enter fn args) w) (hl : l.length = l'.length) (hf : ∀ (i : Nat) (x y : Fld), l[i]? = some x → l'[i]? = some y → SameC fn Fld.d x y) :
    Calls Tryz.prog 65 #[u, u', .func (.func fn) #[] #[]] W fun e w' => e = .returned (.bool true) ∧ Below W.heap.size W w' :=
  (equalVariant_any l l' u u' (fun _ _ => true) fn #[] W hs hs' he (fun i x y cs cs' w hx hy _ h h' => by simpa using hf i x y hx hy cs cs' w h h')).mono (fun e w' h => ⟨by rw [h.1, eqL_true hl], h.2⟩)
theorem rowTy_same (l l' : List Ty) (u u' : Value) (fn : Nat) (W : World) (hs : See W u (.row 37 3 (l.map Ty.d))) (hs' : See W u' (.row 37 3 (l'.map Ty.d)))
    (he : ∀ args w, (callFunc fn args).run Tryz.prog w = .ok (.enter fn args) w) (hl : l.length = l'.length) (hf : ∀ (i : Nat) (x y : Ty), l[i]? = some x → l'[i]? = some y → SameC fn Ty.d x y) :
    Calls Tryz.prog 126 #[u, u', .func (.func fn) #[] #[]] W fun e w' => e = .returned (.bool true) ∧ Below W.heap.size W w' :=
  (equalTy_any l l' u u' (fun _ _ => true) fn #[] W hs hs' he (fun i x y cs cs' w hx hy _ h h' => by simpa using hf i x y hx hy cs cs' w h h')).mono (fun e w' h => ⟨by rw [h.1, eqL_true hl], h.2⟩)
theorem rowOper_same (l l' : List Opr) (u u' : Value) (fn : Nat) (W : World) (hs : See W u (.row 53 4 (l.map Opr.d))) (hs' : See W u' (.row 53 4 (l'.map Opr.d)))
    (he : ∀ args w, (callFunc fn args).run Tryz.prog w = .ok (.enter fn args) w) (hl : l.length = l'.length) (hf : ∀ (i : Nat) (x y : Opr), l[i]? = some x → l'[i]? = some y → SameC fn Opr.d x y) :
    Calls Tryz.prog 182 #[u, u', .func (.func fn) #[] #[]] W fun e w' => e = .returned (.bool true) ∧ Below W.heap.size W w' :=
  (equalOper_any l l' u u' (fun _ _ => true) fn #[] W hs hs' he (fun i x y cs cs' w hx hy _ h h' => by simpa using hf i x y hx hy cs cs' w h h')).mono (fun e w' h => ⟨by rw [h.1, eqL_true hl], h.2⟩)
theorem rowStmt_same (l l' : List Stm) (u u' : Value) (fn : Nat) (W : World) (hs : See W u (.row 60 21 (l.map Stm.d))) (hs' : See W u' (.row 60 21 (l'.map Stm.d)))
    (he : ∀ args w, (callFunc fn args).run Tryz.prog w = .ok (.enter fn args) w) (hl : l.length = l'.length) (hf : ∀ (i : Nat) (x y : Stm), l[i]? = some x → l'[i]? = some y → SameC fn Stm.d x y) :
    Calls Tryz.prog 67 #[u, u', .func (.func fn) #[] #[]] W fun e w' => e = .returned (.bool true) ∧ Below W.heap.size W w' :=
  (equalStmt_any l l' u u' (fun _ _ => true) fn #[] W hs hs' he (fun i x y cs cs' w hx hy _ h h' => by simpa using hf i x y hx hy cs cs' w h h')).mono (fun e w' h => ⟨by rw [h.1, eqL_true hl], h.2⟩)
theorem rowArm_same (l l' : List Arm) (u u' : Value) (fn : Nat) (W : World) (hs : See W u (.row 95 3 (l.map Arm.d))) (hs' : See W u' (.row 95 3 (l'.map Arm.d)))
    (he : ∀ args w, (callFunc fn args).run Tryz.prog w = .ok (.enter fn args) w) (hl : l.length = l'.length) (hf : ∀ (i : Nat) (x y : Arm), l[i]? = some x → l'[i]? = some y → SameC fn Arm.d x y) :
    Calls Tryz.prog 130 #[u, u', .func (.func fn) #[] #[]] W fun e w' => e = .returned (.bool true) ∧ Below W.heap.size W w' :=
  (equalArm_any l l' u u' (fun _ _ => true) fn #[] W hs hs' he (fun i x y cs cs' w hx hy _ h h' => by simpa using hf i x y hx hy cs cs' w h h')).mono (fun e w' h => ⟨by rw [h.1, eqL_true hl], h.2⟩)
theorem rowStruct_same (l l' : List Str) (u u' : Value) (fn : Nat) (W : World) (hs : See W u (.row 75 4 (l.map Str.d))) (hs' : See W u' (.row 75 4 (l'.map Str.d)))
    (he : ∀ args w, (callFunc fn args).run Tryz.prog w = .ok (.enter fn args) w) (hl : l.length = l'.length) (hf : ∀ (i : Nat) (x y : Str), l[i]? = some x → l'[i]? = some y → SameC fn Str.d x y) :
    Calls Tryz.prog 69 #[u, u', .func (.func fn) #[] #[]] W fun e w' => e = .returned (.bool true) ∧ Below W.heap.size W w' :=
  (equalStruct_any l l' u u' (fun _ _ => true) fn #[] W hs hs' he (fun i x y cs cs' w hx hy _ h h' => by simpa using hf i x y hx hy cs cs' w h h')).mono (fun e w' h => ⟨by rw [h.1, eqL_true hl], h.2⟩)
theorem rowFn_same (l l' : List Fnc) (u u' : Value) (fn : Nat) (W : World) (hs : See W u (.row 50 4 (l.map Fnc.d))) (hs' : See W u' (.row 50 4 (l'.map Fnc.d)))
    (he : ∀ args w, (callFunc fn args).run Tryz.prog w = .ok (.enter fn args) w) (hl : l.length = l'.length) (hf : ∀ (i : Nat) (x y : Fnc), l[i]? = some x → l'[i]? = some y → SameC fn Fnc.d x y) :
    Calls Tryz.prog 71 #[u, u', .func (.func fn) #[] #[]] W fun e w' => e = .returned (.bool true) ∧ Below W.heap.size W w' :=
  (equalFn_any l l' u u' (fun _ _ => true) fn #[] W hs hs' he (fun i x y cs cs' w hx hy _ h h' => by simpa using hf i x y hx hy cs cs' w h h')).mono (fun e w' h => ⟨by rw [h.1, eqL_true hl], h.2⟩)
set_option maxRecDepth 100000 in
set_option maxHeartbeats 4000000 in
theorem sTy_fuel : ∀ (m : Nat) (t : Ty), tySz t ≤ m → SameC 63 Ty.d t t := by
  intro m
  induction m with
  | zero => intro t ht; rw [tySz_l] at ht; omega
  | succ m ih =>
    intro t ht cs cs' W h h'
    rw [tySz_l] at ht
    obtain ⟨u, rfl, hu⟩ := Ty.open h
    obtain ⟨u', rfl, hu'⟩ := Ty.open h'
    have HI := Lib.hid ih
    go_enter Tryz.func63, Tryz.ntmps63
    go_upto_region 1 with fail
    obtain ⟨hb, x0, x1⟩ := boxes2 (W := W) (t1 := 37) (t2 := 37) (c1 := #[.int .i64 t.k, .string t.n, u]) (c2 := #[.int .i64 t.k, .string t.n, u'])
    have S_0 := Lib.hid ((hu).bel hb)
    have Z_0 := Lib.hid ((hu').bel hb)
    have HB0 := Lib.hid hb
    have X0 := Lib.hid x0
    have Y0 := Lib.hid x1
    clear hb x0 x1 ih h h' hu hu'
    generalize (W.alloc (.cells #[.int .i64 t.k, .string t.n, u] 37)).alloc (.cells #[.int .i64 t.k, .string t.n, u'] 37) = w_0 at *
    generalize hgW : W.heap.size = g at *
    have HG := Lib.hid hgW
    clear hgW
    obtain ⟨l0, q0, f0⟩ := X0.out.see
    obtain ⟨l1, q1, f1⟩ := Y0.out.see
    go_wp2_with fail
    refine (rowTy_same t.l t.l u u' 63 w_0 S_0.out Z_0.out (enters_of Tryz.func63 (by kernel_rfl) rfl) rfl (fun i x y hx hy => by rw [hx] at hy; injection hy with hy; subst hy; have := tySz_mem (List.mem_of_getElem? hx); exact HI.out x (by omega))).mono ?_
    rintro e w_1 ⟨rfl, hb⟩
    have S_1 := Lib.hid (S_0.out.bel hb)
    have Z_1 := Lib.hid (Z_0.out.bel hb)
    have HB1 := Lib.hid (bel_to HB0.out (by omega) hb)
    have X1 := Lib.hid (X0.out.below hb)
    have Y1 := Lib.hid (Y0.out.below hb)
    clear hb l0 q0 f0 l1 q1 f1 HB0 X0 Y0 S_0 Z_0
    obtain ⟨l0, q0, f0⟩ := X1.out.see
    obtain ⟨l1, q1, f1⟩ := Y1.out.see
    go_wp2_with fail
    go_ret
    exact ⟨rfl, by rw [HG.out]; exact HB1.out⟩
theorem sTy_any (t : Ty) : SameC 63 Ty.d t t := sTy_fuel _ t (Nat.le_refl _)
set_option maxRecDepth 100000 in
set_option maxHeartbeats 4000000 in
theorem sPlace_any (p : Plc) : SameC 127 Plc.d p p := by
  intro cs cs' W h h'
  obtain ⟨u, rfl, hu⟩ := Plc.open h
  obtain ⟨u', rfl, hu'⟩ := Plc.open h'
  go_enter Tryz.func127, Tryz.ntmps127
  go_upto_region 1 with fail
  obtain ⟨hb, x0, x1⟩ := boxes2 (W := W) (t1 := 30) (t2 := 30) (c1 := #[.string p.n, u]) (c2 := #[.string p.n, u'])
  have S_0 := Lib.hid ((hu).bel hb)
  have Z_0 := Lib.hid ((hu').bel hb)
  have HB0 := Lib.hid hb
  have X0 := Lib.hid x0
  have Y0 := Lib.hid x1
  clear hb x0 x1 h h' hu hu'
  generalize (W.alloc (.cells #[.string p.n, u] 30)).alloc (.cells #[.string p.n, u'] 30) = w_0 at *
  generalize hgW : W.heap.size = g at *
  have HG := Lib.hid hgW
  clear hgW
  obtain ⟨l0, q0, f0⟩ := X0.out.see
  obtain ⟨l1, q1, f1⟩ := Y0.out.see
  go_wp2_with fail
  refine (sSteps_any p.p u u' w_0 S_0.out Z_0.out).mono ?_
  rintro e w_1 ⟨rfl, hb⟩
  have S_1 := Lib.hid (S_0.out.bel hb)
  have Z_1 := Lib.hid (Z_0.out.bel hb)
  have HB1 := Lib.hid (bel_to HB0.out (by omega) hb)
  have X1 := Lib.hid (X0.out.below hb)
  have Y1 := Lib.hid (Y0.out.below hb)
  clear hb l0 q0 f0 l1 q1 f1 HB0 X0 Y0 S_0 Z_0
  obtain ⟨l0, q0, f0⟩ := X1.out.see
  obtain ⟨l1, q1, f1⟩ := Y1.out.see
  go_wp2_with fail
  go_ret
  exact ⟨rfl, by rw [HG.out]; exact HB1.out⟩
set_option maxRecDepth 100000 in
set_option maxHeartbeats 4000000 in
theorem sOper_any (p : Opr) : SameC 129 Opr.d p p := by
  intro cs cs' W h h'
  obtain ⟨u, rfl, hu⟩ := Opr.open h
  obtain ⟨u', rfl, hu'⟩ := Opr.open h'
  have h2 : Sees W [.string p.p.n, u] p.p.d := ⟨.v _, hu, trivial⟩
  have h2' : Sees W [.string p.p.n, u'] p.p.d := ⟨.v _, hu', trivial⟩
  go_enter Tryz.func129, Tryz.ntmps129
  go_upto_region 1 with fail
  obtain ⟨hb, x0, x1⟩ := boxes2 (W := W) (t1 := 53) (t2 := 53) (c1 := #[.bool p.num, .int .i64 p.n, .string p.p.n, u]) (c2 := #[.bool p.num, .int .i64 p.n, .string p.p.n, u'])
  have S_0 := Lib.hid ((h2).below hb)
  have Z_0 := Lib.hid ((h2').below hb)
  have HB0 := Lib.hid hb
  have X0 := Lib.hid x0
  have Y0 := Lib.hid x1
  clear hb x0 x1 h h' hu hu' h2 h2'
  generalize (W.alloc (.cells #[.bool p.num, .int .i64 p.n, .string p.p.n, u] 53)).alloc (.cells #[.bool p.num, .int .i64 p.n, .string p.p.n, u'] 53) = w_0 at *
  generalize hgW : W.heap.size = g at *
  have HG := Lib.hid hgW
  clear hgW
  obtain ⟨l0, q0, f0⟩ := X0.out.see
  obtain ⟨l1, q1, f1⟩ := Y0.out.see
  go_wp2_with fail
  refine (sPlace_any p.p _ _ w_0 S_0.out Z_0.out).mono ?_
  rintro e w_1 ⟨rfl, hb⟩
  have S_1 := Lib.hid (S_0.out.below hb)
  have Z_1 := Lib.hid (Z_0.out.below hb)
  have HB1 := Lib.hid (bel_to HB0.out (by omega) hb)
  have X1 := Lib.hid (X0.out.below hb)
  have Y1 := Lib.hid (Y0.out.below hb)
  clear hb l0 q0 f0 l1 q1 f1 HB0 X0 Y0 S_0 Z_0
  obtain ⟨l0, q0, f0⟩ := X1.out.see
  obtain ⟨l1, q1, f1⟩ := Y1.out.see
  go_wp2_with fail
  go_ret
  exact ⟨rfl, by rw [HG.out]; exact HB1.out⟩
set_option maxRecDepth 100000 in
set_option maxHeartbeats 4000000 in
theorem sRv_any (p : Rvl) : SameC 128 Rvl.d p p := by
  intro cs cs' W h h'
  obtain ⟨u, v, rfl, hu, hv⟩ := Rvl.open h
  obtain ⟨u', v', rfl, hu', hv'⟩ := Rvl.open h'
  have h2 : Sees W [.string p.p.n, v] p.p.d := ⟨.v _, hv, trivial⟩
  have h2' : Sees W [.string p.p.n, v'] p.p.d := ⟨.v _, hv', trivial⟩
  go_enter Tryz.func128, Tryz.ntmps128
  go_upto_region 1 with fail
  obtain ⟨hb, x0, x1⟩ := boxes2 (W := W) (t1 := 57) (t2 := 57) (c1 := #[.int .i64 p.k, u, .string p.p.n, v, .string p.n, .string p.v]) (c2 := #[.int .i64 p.k, u', .string p.p.n, v', .string p.n, .string p.v])
  have S_0 := Lib.hid ((h2).below hb)
  have Z_0 := Lib.hid ((h2').below hb)
  have U_0 := Lib.hid ((hu).bel hb)
  have V_0 := Lib.hid ((hu').bel hb)
  have HB0 := Lib.hid hb
  have X0 := Lib.hid x0
  have Y0 := Lib.hid x1
  clear hb x0 x1 h h' hu hu' h2 h2' hv hv'
  generalize (W.alloc (.cells #[.int .i64 p.k, u, .string p.p.n, v, .string p.n, .string p.v] 57)).alloc (.cells #[.int .i64 p.k, u', .string p.p.n, v', .string p.n, .string p.v] 57) = w_0 at *
  generalize hgW : W.heap.size = g at *
  have HG := Lib.hid hgW
  clear hgW
  obtain ⟨l0, q0, f0⟩ := X0.out.see
  obtain ⟨l1, q1, f1⟩ := Y0.out.see
  go_wp2_with fail
  refine (sPlace_any p.p _ _ w_0 S_0.out Z_0.out).mono ?_
  rintro e w_1 ⟨rfl, hb⟩
  have S_1 := Lib.hid (S_0.out.below hb)
  have Z_1 := Lib.hid (Z_0.out.below hb)
  have U_1 := Lib.hid (U_0.out.bel hb)
  have V_1 := Lib.hid (V_0.out.bel hb)
  have HB1 := Lib.hid (bel_to HB0.out (by omega) hb)
  have X1 := Lib.hid (X0.out.below hb)
  have Y1 := Lib.hid (Y0.out.below hb)
  clear hb l0 q0 f0 l1 q1 f1 HB0 X0 Y0 S_0 Z_0 U_0 V_0
  obtain ⟨l0, q0, f0⟩ := X1.out.see
  obtain ⟨l1, q1, f1⟩ := Y1.out.see
  go_wp2_with fail
  refine (rowOper_same p.ops p.ops u u' 129 w_1 U_1.out V_1.out (enters_of Tryz.func129 (by kernel_rfl) rfl) rfl (fun i x y hx hy => by rw [hx] at hy; injection hy with hy; subst hy; exact sOper_any x)).mono ?_
  rintro e w_2 ⟨rfl, hb⟩
  have S_2 := Lib.hid (S_1.out.below hb)
  have Z_2 := Lib.hid (Z_1.out.below hb)
  have U_2 := Lib.hid (U_1.out.bel hb)
  have V_2 := Lib.hid (V_1.out.bel hb)
  have HB2 := Lib.hid (bel_to HB1.out (by omega) hb)
  have X2 := Lib.hid (X1.out.below hb)
  have Y2 := Lib.hid (Y1.out.below hb)
  clear hb l0 q0 f0 l1 q1 f1 HB1 X1 Y1 S_1 Z_1 U_1 V_1
  obtain ⟨l0, q0, f0⟩ := X2.out.see
  obtain ⟨l1, q1, f1⟩ := Y2.out.see
  go_wp2_with fail
  go_ret
  exact ⟨rfl, by rw [HG.out]; exact HB2.out⟩
set_option maxRecDepth 100000 in
set_option maxHeartbeats 4000000 in
theorem sField_any (p : Fld) : SameC 61 Fld.d p p := by
  intro cs cs' W h h'
  obtain ⟨u, rfl, hu⟩ := Fld.open h
  obtain ⟨u', rfl, hu'⟩ := Fld.open h'
  have h2 : Sees W [.int .i64 p.t.k, .string p.t.n, u] p.t.d := h.2
  have h2' : Sees W [.int .i64 p.t.k, .string p.t.n, u'] p.t.d := h'.2
  go_enter Tryz.func61, Tryz.ntmps61
  go_upto_region 1 with fail
  obtain ⟨hb, x0, x1⟩ := boxes2 (W := W) (t1 := 79) (t2 := 79) (c1 := #[.string p.n, .int .i64 p.t.k, .string p.t.n, u]) (c2 := #[.string p.n, .int .i64 p.t.k, .string p.t.n, u'])
  have S_0 := Lib.hid ((h2).below hb)
  have Z_0 := Lib.hid ((h2').below hb)
  have HB0 := Lib.hid hb
  have X0 := Lib.hid x0
  have Y0 := Lib.hid x1
  clear hb x0 x1 h h' hu hu' h2 h2'
  generalize (W.alloc (.cells #[.string p.n, .int .i64 p.t.k, .string p.t.n, u] 79)).alloc (.cells #[.string p.n, .int .i64 p.t.k, .string p.t.n, u'] 79) = w_0 at *
  generalize hgW : W.heap.size = g at *
  have HG := Lib.hid hgW
  clear hgW
  obtain ⟨l0, q0, f0⟩ := X0.out.see
  obtain ⟨l1, q1, f1⟩ := Y0.out.see
  go_wp2_with fail
  refine (sTy_any p.t _ _ w_0 S_0.out Z_0.out).mono ?_
  rintro e w_1 ⟨rfl, hb⟩
  have S_1 := Lib.hid (S_0.out.below hb)
  have Z_1 := Lib.hid (Z_0.out.below hb)
  have HB1 := Lib.hid (bel_to HB0.out (by omega) hb)
  have X1 := Lib.hid (X0.out.below hb)
  have Y1 := Lib.hid (Y0.out.below hb)
  clear hb l0 q0 f0 l1 q1 f1 HB0 X0 Y0 S_0 Z_0
  obtain ⟨l0, q0, f0⟩ := X1.out.see
  obtain ⟨l1, q1, f1⟩ := Y1.out.see
  go_wp2_with fail
  go_ret
  exact ⟨rfl, by rw [HG.out]; exact HB1.out⟩
set_option maxRecDepth 100000 in
set_option maxHeartbeats 4000000 in
theorem sVar_any (p : Fld) : SameC 62 Fld.d p p := by
  intro cs cs' W h h'
  obtain ⟨u, rfl, hu⟩ := Fld.open h
  obtain ⟨u', rfl, hu'⟩ := Fld.open h'
  have h2 : Sees W [.int .i64 p.t.k, .string p.t.n, u] p.t.d := h.2
  have h2' : Sees W [.int .i64 p.t.k, .string p.t.n, u'] p.t.d := h'.2
  go_enter Tryz.func62, Tryz.ntmps62
  go_upto_region 1 with fail
  obtain ⟨hb, x0, x1⟩ := boxes2 (W := W) (t1 := 86) (t2 := 86) (c1 := #[.string p.n, .int .i64 p.t.k, .string p.t.n, u]) (c2 := #[.string p.n, .int .i64 p.t.k, .string p.t.n, u'])
  have S_0 := Lib.hid ((h2).below hb)
  have Z_0 := Lib.hid ((h2').below hb)
  have HB0 := Lib.hid hb
  have X0 := Lib.hid x0
  have Y0 := Lib.hid x1
  clear hb x0 x1 h h' hu hu' h2 h2'
  generalize (W.alloc (.cells #[.string p.n, .int .i64 p.t.k, .string p.t.n, u] 86)).alloc (.cells #[.string p.n, .int .i64 p.t.k, .string p.t.n, u'] 86) = w_0 at *
  generalize hgW : W.heap.size = g at *
  have HG := Lib.hid hgW
  clear hgW
  obtain ⟨l0, q0, f0⟩ := X0.out.see
  obtain ⟨l1, q1, f1⟩ := Y0.out.see
  go_wp2_with fail
  refine (sTy_any p.t _ _ w_0 S_0.out Z_0.out).mono ?_
  rintro e w_1 ⟨rfl, hb⟩
  have S_1 := Lib.hid (S_0.out.below hb)
  have Z_1 := Lib.hid (Z_0.out.below hb)
  have HB1 := Lib.hid (bel_to HB0.out (by omega) hb)
  have X1 := Lib.hid (X0.out.below hb)
  have Y1 := Lib.hid (Y0.out.below hb)
  clear hb l0 q0 f0 l1 q1 f1 HB0 X0 Y0 S_0 Z_0
  obtain ⟨l0, q0, f0⟩ := X1.out.see
  obtain ⟨l1, q1, f1⟩ := Y1.out.see
  go_wp2_with fail
  go_ret
  exact ⟨rfl, by rw [HG.out]; exact HB1.out⟩
end Go.Proofs.YtjoiflokekebkaaGreatDoor
end
