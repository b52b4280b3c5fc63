/- Texts of this claim in one file: H52. -/
import Derived.Test.YthgnbeeobhfeaaaK20
set_option linter.all false
section
/- Walks: what is needed is just what the document says. -/
namespace Go.Proofs.Ythgnbeeobhfeaaa.T
open Go.RowKit Go.Shelf Go.Proofs.YthgnbeeobhfeaaaW.PrintWords Go.Proofs.YthgnbeeobhfeaaaW.PrintLast

set_option maxRecDepth 100000 in
set_option maxHeartbeats 8000000 in
theorem backs_any (s : ByteArray) (p : Int) (A2 : Option Addr) (n2 c2 : Nat) (A3 : Option Addr) (c3 : Nat) (l03 : List S58) (n : Int) (Al : Option Addr) (cl : Nat) (cs : List S66) (w : World)
    (hC : Kd.C k58 w A3 l03.length l03) (hCs : Kd.C k66 w Al cs.length cs) (hcl : cs.length ≤ cl) (hWs : ∀ c ∈ cs, inW c.f0 = true ∧ inW c.f1 = true) :
    Calls Try.prog 4 #[bodyV s p A2 n2 c2 A3 l03.length c3, .int .i64 n, .slice Al cs.length cl] w fun e w' => e = .returned (.bool true) ∧ Below w.heap.size w w' := by
  have HC := Lib.hid hC
  have HCs := Lib.hid hCs
  have HWs := Lib.hid hWs
  have hl3 : l03.length ≤ 9223372036854775807 := hC.2.1
  have hlc : cs.length ≤ 9223372036854775807 := hCs.2.1
  clear hC hCs hWs
  go_enter Try.func4, Try.ntmps4
  go_wp2_with fail
  have hbx : BoxIs (w.alloc (.cells (bodyC s p A2 n2 c2 A3 l03.length c3) 25)) w.heap.size (bodyC s p A2 n2 c2 A3 l03.length c3) 25 := heap_alloc_new w _
  have hlow := below_alloc (Below.refl w.heap.size w) (.cells (bodyC s p A2 n2 c2 A3 l03.length c3) 25)
  generalize w.alloc (.cells (bodyC s p A2 n2 c2 A3 l03.length c3) 25) = w1 at *
  refine (works_any w1).mono ?_
  rintro e w2 ⟨rfl, hb⟩
  replace hbx := hbx.below hb hbx.lt
  replace hlow := below_then hlow hlow.size hb
  clear hb
  have e0 := hbx.cell 0 _ rfl
  have e1 := hbx.cell 1 _ rfl
  have e2 := hbx.cell 2 _ rfl
  have e3 := hbx.cell 3 _ rfl
  have HBX := Lib.hid hbx
  have HLO := Lib.hid hlow
  clear hbx hlow
  go_wp2_with fail
  refine (over_any s p A2 n2 c2 A3 c3 l03 n Al cl cs w2 (Kd.C_below HC.out HLO.out) (Kd.C_below HCs.out HLO.out)).mono ?_
  rintro e w3 ⟨_, rfl, ⟨o, rfl, ho⟩, hb⟩
  have HBX3 := Lib.hid (HBX.out.below hb HBX.out.lt)
  have HLO3 := Lib.hid (below_then HLO.out HLO.out.size hb)
  clear hb HBX HLO e0 e1 e2 e3
  cases o with
  | true =>
    clear ho
    go_wp2_with fail
    go_ret
    exact ⟨rfl, HLO3.out⟩
  | false =>
    obtain ⟨hfew, hn30, hfc⟩ := ho rfl
    clear ho
    have hcf : cs.length ≤ 1000 := by
      have h := hfc
      simp only [fewC, Bool.and_eq_true, decide_eq_true_eq] at h
      have := h.1
      simp only [chsOf, List.length_map] at this
      omega
    have HFEW := Lib.hid hfew
    obtain ⟨xsss, hx⟩ : ∃ xsss, xsss = backL (bksOf l03) n.toNat (chsOf cs) := ⟨_, rfl⟩
    have hxl : xsss.length = l03.length := by rw [hx, rows_many, bksOf_length]
    have HX := Lib.hid hx
    have HXL := Lib.hid hxl
    have hm30 : l03.length ≤ 30 := (fewB_at HFEW.out).1
    have e0 := HBX3.out.cell 0 _ rfl
    have e1 := HBX3.out.cell 1 _ rfl
    have e2 := HBX3.out.cell 2 _ rfl
    have e3 := HBX3.out.cell 3 _ rfl
    have HBKW : Hid (∀ W, Below w3.heap.size w3 W → Calls Try.prog 16 #[bodyV s p A2 n2 c2 A3 l03.length c3, .int .i64 n, .slice Al cs.length cl] W fun e W' => ∃ A c, e = .returned (.slice A l03.length c) ∧ RD3 W' A xsss ∧ Below W.heap.size W W') := Lib.hid (fun W hW => by
      have hL := below_then HLO3.out HLO3.out.size hW
      refine (back_any s p A2 n2 c2 A3 c3 l03 n Al cl cs W (Kd.C_below HC.out hL) HFEW.out hn30 (Kd.C_below HCs.out hL) hcl hcf HWs.out).mono ?_
      rintro e W' ⟨v, rfl, hN, hb⟩
      obtain ⟨A, c, rfl⟩ := hN.slice
      refine ⟨A, c, by rw [rows_many, bksOf_length], ?_, hb⟩
      rw [HX.out]
      exact hN.rd)
    have HCHW : Hid (∀ W, Below w3.heap.size w3 W → Calls Try.prog 15 #[.slice Al cs.length cl] W fun e W' => ∃ A c, e = .returned (.slice A cs.length c) ∧ Kd.C k90 W' A cs.length (cs.map to90) ∧ Below W.heap.size W W') := Lib.hid (fun W hW => by
      refine (rchanges_any Al cl cs W (Kd.C_below HCs.out (below_then HLO3.out HLO3.out.size hW)) hcf).mono ?_
      rintro e W' ⟨A, c, rfl, _, hC, hb⟩
      exact ⟨A, c, rfl, hC, hb⟩)
    have HRBW : Hid (∀ W (Am : Option Addr) (cm : Nat), Below w3.heap.size w3 W → Kd.C k90 W Am cs.length (cs.map to90) → Calls Try.prog 17 #[bodyV s p A2 n2 c2 A3 l03.length c3, .int .i64 n, .slice Am cs.length cm] W fun e W' => ∃ g, e = .returned (.slice (some ⟨g, 0, none⟩) l03.length l03.length) ∧ RD3 W' (some ⟨g, 0, none⟩) xsss ∧ Below W.heap.size W W') := Lib.hid (fun W Am cm hW hCm => by
      have hL := below_then HLO3.out HLO3.out.size hW
      have hrf := rback_any s p A2 n2 c2 A3 c3 l03 n Am cm (cs.map to90) W (Kd.C_below HC.out hL) HFEW.out hn30 (by rw [List.length_map]; exact hCm)
      rw [List.length_map, chs90_to, ← HX.out] at hrf
      refine hrf.mono ?_
      rintro e W' ⟨g, us, rfl, hR, hb⟩
      exact ⟨g, rfl, hR.rd, hb⟩)
    have HSMW : Hid (∀ W (A B : Option Addr) (ca cb : Nat), RD3 W A xsss → RD3 W B xsss → Calls Try.prog 12 #[.slice A l03.length ca, .slice B l03.length cb] W fun e W' => e = .returned (.bool true) ∧ Drawn0 W W') := Lib.hid (fun W A B ca cb hA hB => by
      have h := rsame3_any W A B ca cb xsss hA hB (by rw [HXL.out]; exact hl3)
      rwa [HXL.out] at h)
    clear hx hxl hfew hfc e0 e1 e2 e3 HC HCs HWs
    go_wp2_with fail
    rename_i K hK
    refine start_ (n := 11) (S := fun w' => w'.cell? ⟨w.heap.size, 0, none⟩ = some (.string s) ∧ w'.cell? ⟨w.heap.size, 1, none⟩ = some (.int .i64 p) ∧ w'.cell? ⟨w.heap.size, 2, none⟩ = some (.slice A2 n2 c2) ∧ w'.cell? ⟨w.heap.size, 3, none⟩ = some (.slice A3 l03.length c3)) (ds := []) #[false, false, false, false, false, false, false, false, false, false, false] (by kernel_rfl) rfl rfl ⟨(HBX3.out.below (below_drew (Below.refl _ _)) HBX3.out.lt).cell 0 _ rfl, (HBX3.out.below (below_drew (Below.refl _ _)) HBX3.out.lt).cell 1 _ rfl, (HBX3.out.below (below_drew (Below.refl _ _)) HBX3.out.lt).cell 2 _ rfl, (HBX3.out.below (below_drew (Below.refl _ _)) HBX3.out.lt).cell 3 _ rfl⟩ (fun hHeld => ?_)
    refine pure_ (i := 1) (N := some 20) (v := ?_) (a' := ?_) #[false, true, false, false, false, false, false, false, false, false, false] rfl rfl (by kernel_rfl) (fun _ _ _ h => h) (Or.inl ⟨by rfl, ?_⟩) ?_ ?_
    rotate_left
    · intro w'
      go_simp
      with_reducible rfl
    rotate_left
    · simp only [Act.put, List.setIfInBounds_toArray, List.set_cons_zero, List.set_cons_succ, i64_w, i32_w]
      rfl
    refine pure_ (i := 2) (N := some 21) (v := ?_) (a' := ?_) #[false, true, true, false, false, false, false, false, false, false, false] rfl rfl (by kernel_rfl) (fun _ _ _ h => h) (Or.inl ⟨by rfl, ?_⟩) ?_ ?_
    rotate_left
    · intro w'
      go_simp
      with_reducible rfl
    rotate_left
    · simp only [Act.put, List.setIfInBounds_toArray, List.set_cons_zero, List.set_cons_succ, i64_w, i32_w]
      rfl
    refine pure_ (i := 5) (N := some 24) (v := ?_) (a' := ?_) #[false, true, true, false, false, true, false, false, false, false, false] rfl rfl (by kernel_rfl) (fun _ _ _ h => h) (Or.inl ⟨by rfl, ?_⟩) ?_ ?_
    rotate_left
    · intro w'
      go_simp
      with_reducible rfl
    rotate_left
    · simp only [Act.put, List.setIfInBounds_toArray, List.set_cons_zero, List.set_cons_succ, i64_w, i32_w]
      rfl
    refine pure_ (i := 6) (N := some 25) (v := ?_) (a' := ?_) #[false, true, true, false, false, true, true, false, false, false, false] rfl rfl (by kernel_rfl) (fun _ _ _ h => h) (Or.inl ⟨by rfl, ?_⟩) ?_ ?_
    rotate_left
    · intro w'
      go_simp
      with_reducible rfl
    rotate_left
    · simp only [Act.put, List.setIfInBounds_toArray, List.set_cons_zero, List.set_cons_succ, i64_w, i32_w]
      rfl
    refine take_ (i := 0) (N := some 19) (v := ?_) (a' := ?_) #[true, true, true, false, false, true, true, false, false, false, false] rfl rfl (by kernel_rfl) (fun _ _ _ h => h) (Or.inl ⟨by rfl, ?_⟩) hHeld ?_ ?_
    rotate_left
    · rintro w' ⟨s0, s1, s2, s3⟩
      go_simp
      with_reducible rfl
    rotate_left
    · simp only [Act.put, List.setIfInBounds_toArray, List.set_cons_zero, List.set_cons_succ, i64_w, i32_w]
      rfl
    refine take_ (i := 4) (N := some 23) (v := ?_) (a' := ?_) #[true, true, true, false, true, true, true, false, false, false, false] rfl rfl (by kernel_rfl) (fun _ _ _ h => h) (Or.inl ⟨by rfl, ?_⟩) hHeld ?_ ?_
    rotate_left
    · rintro w' ⟨s0, s1, s2, s3⟩
      go_simp
      with_reducible rfl
    rotate_left
    · simp only [Act.put, List.setIfInBounds_toArray, List.set_cons_zero, List.set_cons_succ, i64_w, i32_w]
      rfl
    refine one_ (i := 3) (N := some 22) #[true, true, true, true, true, true, true, false, false, false, false] rfl rfl (by kernel_rfl) (by decide) (fun K hK => ?_)
    refine goes_ Try.func16 (by kernel_rfl) rfl #[bodyV s p A2 n2 c2 A3 l03.length c3, .int .i64 n, .slice Al cs.length cl] (by rfl) rfl rfl (by simp only [List.map_toArray, List.map_cons, List.map_nil]; rfl) ?_
    with_reducible refine (HBKW.out _ (below_drew (Below.refl _ _))).mono ?_
    rintro e w5 ⟨Ax, cx, rfl, hr5, hb5⟩
    refine ⟨_, rfl, ?_⟩
    have HB5 := Lib.hid (below_then (below_drew (Below.refl w3.heap.size w3)) (Nat.le_refl _) hb5)
    have HR5 := Lib.hid hr5
    clear hr5 hb5
    refine hK.out _ _ ⟨(HBX3.out.below HB5.out HBX3.out.lt).cell 0 _ rfl, (HBX3.out.below HB5.out HBX3.out.lt).cell 1 _ rfl, (HBX3.out.below HB5.out HBX3.out.lt).cell 2 _ rfl, (HBX3.out.below HB5.out HBX3.out.lt).cell 3 _ rfl⟩ (fun hHeld => ?_)
    clear hK K
    refine norm_ (a' := ?_) ?_ ?_
    rotate_left
    · show Act.put _ (some 22) _ = _
      simp only [Act.put, List.setIfInBounds_toArray, List.set_cons_zero, List.set_cons_succ, i64_w, i32_w]
      rfl
    refine one_ (i := 7) (N := some 26) #[true, true, true, true, true, true, true, true, false, false, false] rfl rfl (by kernel_rfl) (by decide) (fun K hK => ?_)
    refine goes_ Try.func15 (by kernel_rfl) rfl #[.slice Al cs.length cl] (by rfl) rfl rfl (by simp only [List.map_toArray, List.map_cons, List.map_nil]; rfl) ?_
    with_reducible refine (HCHW.out _ HB5.out).mono ?_
    rintro e w6 ⟨Am, cm, rfl, hc6, hb6⟩
    refine ⟨_, rfl, ?_⟩
    have HB6 := Lib.hid (below_then HB5.out HB5.out.size hb6)
    have HR6 := Lib.hid (HR5.out.below hb6)
    have HC6 := Lib.hid hc6
    clear hc6 hb6
    refine hK.out _ _ ⟨(HBX3.out.below HB6.out HBX3.out.lt).cell 0 _ rfl, (HBX3.out.below HB6.out HBX3.out.lt).cell 1 _ rfl, (HBX3.out.below HB6.out HBX3.out.lt).cell 2 _ rfl, (HBX3.out.below HB6.out HBX3.out.lt).cell 3 _ rfl⟩ (fun hHeld => ?_)
    clear hK K
    refine norm_ (a' := ?_) ?_ ?_
    rotate_left
    · show Act.put _ (some 26) _ = _
      simp only [Act.put, List.setIfInBounds_toArray, List.set_cons_zero, List.set_cons_succ, i64_w, i32_w]
      rfl
    refine one_ (i := 8) (N := some 27) #[true, true, true, true, true, true, true, true, true, false, false] rfl rfl (by kernel_rfl) (by decide) (fun K hK => ?_)
    refine goes_ Try.func17 (by kernel_rfl) rfl #[bodyV s p A2 n2 c2 A3 l03.length c3, .int .i64 n, .slice Am cs.length cm] (by rfl) rfl rfl (by simp only [List.map_toArray, List.map_cons, List.map_nil]; rfl) ?_
    with_reducible refine (HRBW.out _ Am cm HB6.out HC6.out).mono ?_
    rintro e w7 ⟨g7, rfl, hr7, hb7⟩
    refine ⟨_, rfl, ?_⟩
    have HB7 := Lib.hid (below_then HB6.out HB6.out.size hb7)
    have HR7 := Lib.hid (HR6.out.below hb7)
    have HR7' := Lib.hid hr7
    clear hr7 hb7
    refine hK.out _ _ ⟨(HBX3.out.below HB7.out HBX3.out.lt).cell 0 _ rfl, (HBX3.out.below HB7.out HBX3.out.lt).cell 1 _ rfl, (HBX3.out.below HB7.out HBX3.out.lt).cell 2 _ rfl, (HBX3.out.below HB7.out HBX3.out.lt).cell 3 _ rfl⟩ (fun hHeld => ?_)
    clear hK K
    refine norm_ (a' := ?_) ?_ ?_
    rotate_left
    · show Act.put _ (some 27) _ = _
      simp only [Act.put, List.setIfInBounds_toArray, List.set_cons_zero, List.set_cons_succ, i64_w, i32_w]
      rfl
    refine one_ (i := 9) (N := some 28) #[true, true, true, true, true, true, true, true, true, true, false] rfl rfl (by kernel_rfl) (by decide) (fun K hK => ?_)
    refine goes_ Try.func12 (by kernel_rfl) rfl #[.slice Ax l03.length cx, .slice (some ⟨g7, 0, none⟩) l03.length l03.length] (by rfl) rfl rfl (by simp only [List.map_toArray, List.map_cons, List.map_nil]; rfl) ?_
    with_reducible refine (HSMW.out _ Ax (some ⟨g7, 0, none⟩) cx l03.length HR7.out HR7'.out).mono ?_
    rintro e w8 ⟨rfl, hd8⟩
    refine ⟨_, rfl, ?_⟩
    have HB8 := Lib.hid (below_then HB7.out HB7.out.size hd8.below)
    clear hd8
    refine hK.out _ _ ⟨(HBX3.out.below HB8.out HBX3.out.lt).cell 0 _ rfl, (HBX3.out.below HB8.out HBX3.out.lt).cell 1 _ rfl, (HBX3.out.below HB8.out HBX3.out.lt).cell 2 _ rfl, (HBX3.out.below HB8.out HBX3.out.lt).cell 3 _ rfl⟩ (fun hHeld => ?_)
    clear hK K
    refine norm_ (a' := ?_) ?_ ?_
    rotate_left
    · show Act.put _ (some 28) _ = _
      simp only [Act.put, List.setIfInBounds_toArray, List.set_cons_zero, List.set_cons_succ, i64_w, i32_w]
      rfl
    refine pure_ (i := 10) (N := some 9) (v := ?_) (a' := ?_) #[true, true, true, true, true, true, true, true, true, true, true] rfl rfl (by kernel_rfl) (fun _ _ _ h => h) (Or.inl ⟨by rfl, ?_⟩) ?_ ?_
    rotate_left
    · intro w'
      go_simp
      with_reducible rfl
    rotate_left
    · simp only [Act.put, List.setIfInBounds_toArray, List.set_cons_zero, List.set_cons_succ, i64_w, i32_w]
      rfl
    refine done_ (by kernel_rfl) ?_
    refine hK _ _ ?_
    clear hK K
    go_wp2_with fail
    go_ret
    exact ⟨rfl, below_then HLO3.out HLO3.out.size HB8.out⟩
end Go.Proofs.Ythgnbeeobhfeaaa.T
end
