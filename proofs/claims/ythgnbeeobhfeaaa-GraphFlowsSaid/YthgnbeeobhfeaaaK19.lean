/- Texts of this claim in one file: H47, H48. -/
import Derived.Test.YthgnbeeobhfeaaaK18
set_option linter.all false
section
/- Walks: the two answers of what holds are the same. -/
namespace Go.Proofs.Ythgnbeeobhfeaaa.T
open Go.RowKit Go.Shelf Go.Proofs.YthgnbeeobhfeaaaW.PrintWords Go.Proofs.YthgnbeeobhfeaaaW.PrintLast

/-- Rows of rows of flags, as they are read. -/
def RD2 (W : World) (A : Option Addr) (xss : List (List Bool)) : Prop := xss.length ≤ 9223372036854775807 ∧ ∀ (k : Nat) (x : List Bool), xss[k]? = some x → ∃ g Ax dx, A = some ⟨g, 0, none⟩ ∧ W.cell? ⟨g, k, none⟩ = some (.slice Ax x.length dx) ∧ Kd.bool.C W Ax x.length x
def RD3 (W : World) (A : Option Addr) (xsss : List (List (List Bool))) : Prop := ∀ (i : Nat) (xss : List (List Bool)), xsss[i]? = some xss → ∃ g A2 d2, A = some ⟨g, 0, none⟩ ∧ W.cell? ⟨g, i, none⟩ = some (.slice A2 xss.length d2) ∧ RD2 W A2 xss
theorem RD2.below {W W' : World} {A : Option Addr} {xss : List (List Bool)} (h : RD2 W A xss) (hb : Below W.heap.size W W') : RD2 W' A xss :=
  ⟨h.1, fun k x hk => by
    obtain ⟨g, Ax, dx, h1, h2, h3⟩ := h.2 k x hk
    exact ⟨g, Ax, dx, h1, pw_cell_below hb h2, Kd.C_below h3 hb⟩⟩
theorem RD3.below {W W' : World} {A : Option Addr} {xsss : List (List (List Bool))} (h : RD3 W A xsss) (hb : Below W.heap.size W W') : RD3 W' A xsss := fun i xss hi => by
  obtain ⟨g, A2, d2, h1, h2, h3⟩ := h i xss hi
  exact ⟨g, A2, d2, h1, pw_cell_below hb h2, h3.below hb⟩
theorem own_len4 {W : World} {B : Nat} {e : TypeId} {z : Nat} {v : Value} {n : Nat} {xs : List Value} (h : W.ownsRow B e z v n xs) : n ≤ 9223372036854775807 := by
  obtain ⟨_, ⟨_, rfl⟩ | ⟨g, cap, cur, _, _, _, h1, h2, _⟩⟩ := h
  · omega
  · have : maxLen = 9223372036854775807 := rfl
    omega
theorem OB.C4 {W : World} {B : Nat} {A : Option Addr} {n c : Nat} {xs : List Bool} (h : OB W B (.slice A n c) xs) : Kd.bool.C W A xs.length xs := by
  obtain ⟨A', c', h1, _, h3⟩ := OB.reads h
  injection h1 with h1
  subst h1
  exact h3
theorem drawn0_tr2 {a b c : World} (h : Drawn0 a b) (k : Drawn0 b c) : Drawn0 a c := by
  obtain ⟨n, rfl⟩ := k
  exact Drawn0.step h n
theorem own_form1 {W : World} {B : Nat} {e : TypeId} {v : Value} {n : Nat} {xs : List Value} (h : W.ownsRow B e 1 v n xs) (hp : 0 < n) : ∃ g cap, v = .slice (some ⟨g, 0, none⟩) n cap ∧ B ≤ g ∧ g < W.heap.size := h.form hp
theorem N3.rd {W : World} {B : Nat} {A : Option Addr} {n c : Nat} {xsss : List (List (List Bool))} (h : N3 W B (.slice A n c) xsss) : RD3 W A xsss := fun i xss hi => by
  obtain ⟨g, c', A2, d2, h1, h2, h3⟩ := h.at_ hi
  injection h1 with h1
  refine ⟨g, A2, d2, h1, h2, own_len4 h3.own.choose_spec.1, fun k x hk => ?_⟩
  obtain ⟨g', c'', Ax, dx, h4, h5, h6⟩ := h3.at_ hk
  injection h4 with h4
  exact ⟨g', Ax, dx, h4, h5, h6.C4⟩
theorem R3.rd {W : World} {g : Nat} {us : List Value} {xsss : List (List (List Bool))} (h : R3 W g us xsss) : RD3 W (some ⟨g, 0, none⟩) xsss := fun i xss hi => by
  have hlt := (List.getElem?_eq_some_iff.1 hi).1
  obtain ⟨u, hu⟩ : ∃ u, us[i]? = some u := ⟨_, List.getElem?_eq_getElem (by have := h.2.1; omega)⟩
  obtain ⟨vs, hq⟩ := h.2.2 i u xss hu hi
  obtain ⟨A2, d2, rfl⟩ := own_slice hq.1
  rw [hq.2.1] at hu
  refine ⟨g, A2, d2, rfl, h.1.cell i _ (by simpa using hu), by have := own_len4 hq.1; have := hq.2.1; omega, fun k x hk => ?_⟩
  have hlk := (List.getElem?_eq_some_iff.1 hk).1
  obtain ⟨v, hv⟩ : ∃ v, vs[k]? = some v := ⟨_, List.getElem?_eq_getElem (by have := hq.2.1; omega)⟩
  obtain ⟨hx, _⟩ := hq.2.2 k v x hv hk
  obtain ⟨Ax, dx, rfl⟩ := own_slice hx
  obtain ⟨g', cap, e, _, _⟩ := own_form1 hq.1 (by have := hq.2.1; omega)
  injection e with e1
  subst e1
  have hc := hq.1.cells (g := g') rfl k _ hv
  have hc : W.cell? ⟨g', k, none⟩ = some (.slice Ax x.length dx) := by
    by_cases h0 : k = 0
    · subst h0
      exact hc
    · simpa [Addr.add, h0] using hc
  exact ⟨g', Ax, dx, rfl, hc, hx.C4⟩

set_option maxRecDepth 100000 in
set_option maxHeartbeats 8000000 in
theorem rsame3_any (w : World) (A B : Option Addr) (ca cb : Nat) (xsss : List (List (List Bool))) (hx : RD3 w A xsss) (hy : RD3 w B xsss) (hl : xsss.length ≤ 9223372036854775807) :
    Calls Try.prog 12 #[.slice A xsss.length ca, .slice B xsss.length cb] w fun e w' => e = .returned (.bool true) ∧ Drawn0 w w' := by
  have HX := Lib.hid hx
  have HY := Lib.hid hy
  clear hx hy
  go_enter Try.func12, Try.ntmps12
  go_wp2_with fail
  go_loopw [5] (fun u wr => ∃ i : Nat, u = .int .i64 i ∧ i ≤ xsss.length ∧ Hid (Drawn0 w wr)) (fun u _ => xsss.length - (intOf u).toNat)
  case atStart => exact ⟨0, rfl, Nat.zero_le _, Lib.hid ⟨0, rfl⟩⟩
  case round =>
    obtain ⟨i, rfl, hi, HD⟩ := hrel
    by_cases hlt : i < xsss.length
    · obtain ⟨xss, hxs⟩ : ∃ xss, xsss[i]? = some xss := ⟨_, List.getElem?_eq_getElem hlt⟩
      obtain ⟨gx, Ax, dx, rfl, hcx, hrx⟩ := HX.out i xss hxs
      obtain ⟨gy, Ay, dy, rfl, hcy, hry⟩ := HY.out i xss hxs
      have HRX := Lib.hid hrx
      have HRY := Lib.hid hry
      have hxl : xss.length ≤ 9223372036854775807 := hrx.1
      have zx := pw_cell_below HD.out.below hcx
      have zy := pw_cell_below HD.out.below hcy
      clear hxs hrx hry
      go_wp2_with fail
      try (go_quiet (fail))
      try (go_wp2_with fail)
      clear zx zy
      go_loopw [6] (fun u wr => ∃ k : Nat, u = .int .i64 k ∧ k ≤ xss.length ∧ Hid (Drawn0 w wr)) (fun u _ => xss.length - (intOf u).toNat)
      case atStart => exact ⟨0, rfl, Nat.zero_le _, by first | exact HD | exact Lib.hid (Drawn0.step HD.out _)⟩
      case round =>
        clear HD
        obtain ⟨k, rfl, hk, HD⟩ := hrel
        have zx := pw_cell_below HD.out.below hcx
        have zy := pw_cell_below HD.out.below hcy
        by_cases hltk : k < xss.length
        · obtain ⟨x, hx⟩ : ∃ x, xss[k]? = some x := ⟨_, List.getElem?_eq_getElem hltk⟩
          obtain ⟨hu, Au, du, rfl, hcu, hCu⟩ := HRX.out.2 k x hx
          obtain ⟨hv, Av, dv, rfl, hcv, hCv⟩ := HRY.out.2 k x hx
          have zu := pw_cell_below HD.out.below hcu
          have zv := pw_cell_below HD.out.below hcv
          have HSM : Hid (∀ W, Below w.heap.size w W → Calls Try.prog 26 #[.slice Au x.length du, .slice Av x.length dv] W fun e w' => e = .returned (.bool true) ∧ Drawn0 W w') := Lib.hid (fun W hW => by
            have h := rsame_any W Au Av du dv x x (Kd.C_below hCu hW) (Kd.C_below hCv hW) rfl
            rwa [show decide (x = x) = true from decide_eq_true rfl] at h)
          clear hx hCu hCv
          go_wp2_with fail
          first
            | (refine (HSM.out wr HD.out.below).mono ?_
               rintro e w9 ⟨rfl, hd9⟩
               have HD9 := Lib.hid (drawn0_tr2 HD.out hd9)
               clear hd9
               go_wp2_with fail
               go_roundw
               case rel => exact ⟨k + 1, by go_num, by omega, HD9⟩
               case measure => first | (simp [intOf]; omega) | (simp [intOf]; done))
            | (go_quiet ((go_at_call 26; exact Calls.quiet_of (drawn_ex2 (HSM.out _ (pw_below_drewN HD.out.below _)))))
               go_wp2_with fail
               go_roundw
               case rel => exact ⟨k + 1, by go_num, by omega, Lib.hid (Drawn0.step HD.out _)⟩
               case measure => first | (simp [intOf]; omega) | (simp [intOf]; done))
        · obtain rfl : k = xss.length := by omega
          clear hltk hk
          go_wp2_with fail
          go_roundw
          case rel => exact ⟨i + 1, by go_num, by omega, HD⟩
          case measure => first | (simp [intOf]; omega) | (simp [intOf]; done)
    · obtain rfl : i = xsss.length := by omega
      clear hlt hi
      go_wp2_with fail
      go_ret
      exact ⟨rfl, HD.out⟩
end Go.Proofs.Ythgnbeeobhfeaaa.T
end

section
/- Walks: what holds, on one way or on all, is just what the document says. -/
namespace Go.Proofs.Ythgnbeeobhfeaaa.T
open Go.RowKit Go.Shelf Go.Proofs.YthgnbeeobhfeaaaW.PrintWords Go.Proofs.YthgnbeeobhfeaaaW.PrintLast

set_option maxRecDepth 100000 in
set_option maxHeartbeats 8000000 in
theorem flows_any (s : ByteArray) (p : Int) (A2 : Option Addr) (n2 c2 : Nat) (A3 : Option Addr) (c3 : Nat) (l03 : List S58) (n : Int) (As : Option Addr) (cst : Nat) (start : List Bool) (Al : Option Addr) (cl : Nat) (cs : List S66) (every : Bool) (w : World)
    (hC : Kd.C k58 w A3 l03.length l03) (hS : Kd.bool.C w As start.length start) (hs : start.length ≤ cst) (hCs : Kd.C k66 w Al cs.length cs) (hcl : cs.length ≤ cl) (hWs : ∀ c ∈ cs, inW c.f0 = true ∧ inW c.f1 = true) :
    Calls Try.prog 3 #[bodyV s p A2 n2 c2 A3 l03.length c3, .int .i64 n, .slice As start.length cst, .slice Al cs.length cl, .bool every] w fun e w' => e = .returned (.bool true) ∧ Below w.heap.size w w' := by
  have HC := Lib.hid hC
  have HS := Lib.hid hS
  have HCs := Lib.hid hCs
  have HWs := Lib.hid hWs
  have hls : start.length ≤ 9223372036854775807 := hS.2.1
  have hl3 : l03.length ≤ 9223372036854775807 := hC.2.1
  have hlc : cs.length ≤ 9223372036854775807 := hCs.2.1
  clear hC hS hCs hWs
  go_enter Try.func3, Try.ntmps3
  go_wp2_with fail
  have hbx : BoxIs (w.alloc (.cells (bodyC s p A2 n2 c2 A3 l03.length c3) 25)) w.heap.size (bodyC s p A2 n2 c2 A3 l03.length c3) 25 := heap_alloc_new w _
  have hlow := below_alloc (Below.refl w.heap.size w) (.cells (bodyC s p A2 n2 c2 A3 l03.length c3) 25)
  generalize w.alloc (.cells (bodyC s p A2 n2 c2 A3 l03.length c3) 25) = w1 at *
  refine (works_any w1).mono ?_
  rintro e w2 ⟨rfl, hb⟩
  replace hbx := hbx.below hb hbx.lt
  replace hlow := below_then hlow hlow.size hb
  clear hb
  have e0 := hbx.cell 0 _ rfl
  have e1 := hbx.cell 1 _ rfl
  have e2 := hbx.cell 2 _ rfl
  have e3 := hbx.cell 3 _ rfl
  have HBX := Lib.hid hbx
  have HLO := Lib.hid hlow
  clear hbx hlow
  go_wp2_with fail
  refine (over_any s p A2 n2 c2 A3 c3 l03 n Al cl cs w2 (Kd.C_below HC.out HLO.out) (Kd.C_below HCs.out HLO.out)).mono ?_
  rintro e w3 ⟨_, rfl, ⟨o, rfl, ho⟩, hb⟩
  have HBX3 := Lib.hid (HBX.out.below hb HBX.out.lt)
  have HLO3 := Lib.hid (below_then HLO.out HLO.out.size hb)
  clear hb HBX HLO e0 e1 e2 e3
  cases o with
  | true =>
    clear ho
    go_wp2_with fail
    go_ret
    exact ⟨rfl, HLO3.out⟩
  | false =>
    obtain ⟨hfew, hn30, hfc⟩ := ho rfl
    clear ho
    by_cases k0 : start.length > 30
    · have k0' : (start.length : Int) > 30 := by omega
      go_wp2_with fail
      go_ret
      exact ⟨rfl, HLO3.out⟩
    · have k0' : ¬ ((start.length : Int) > 30) := by omega
      have hcf : cs.length ≤ 1000 := by
        have h := hfc
        simp only [fewC, Bool.and_eq_true, decide_eq_true_eq] at h
        have := h.1
        simp only [chsOf, List.length_map] at this
        omega
      have HFEW := Lib.hid hfew
      obtain ⟨xsss, hx⟩ : ∃ xsss, xsss = flowL (bksOf l03) n.toNat start (chsOf cs) every := ⟨_, rfl⟩
      have hxl : xsss.length = l03.length := by rw [hx, flowL_length, bksOf_length]
      have HX := Lib.hid hx
      have HXL := Lib.hid hxl
      have hm30 : l03.length ≤ 30 := (fewB_at HFEW.out).1
      have e0 := HBX3.out.cell 0 _ rfl
      have e1 := HBX3.out.cell 1 _ rfl
      have e2 := HBX3.out.cell 2 _ rfl
      have e3 := HBX3.out.cell 3 _ rfl
      have HFLW : Hid (∀ W, Below w3.heap.size w3 W → Calls Try.prog 13 #[bodyV s p A2 n2 c2 A3 l03.length c3, .int .i64 n, .slice As start.length cst, .slice Al cs.length cl, .bool every] W fun e W' => ∃ A c, e = .returned (.slice A l03.length c) ∧ RD3 W' A xsss ∧ Below W.heap.size W W') := Lib.hid (fun W hW => by
        have hL := below_then HLO3.out HLO3.out.size hW
        refine (flow_any s p A2 n2 c2 A3 c3 l03 n As cst start Al cl cs every W (Kd.C_below HC.out hL) HFEW.out hn30 (Kd.C_below HS.out hL) hs (Kd.C_below HCs.out hL) hcl hcf HWs.out).mono ?_
        rintro e W' ⟨v, rfl, hN, hb⟩
        obtain ⟨A, c, rfl⟩ := hN.slice
        refine ⟨A, c, by rw [flowL_length, bksOf_length], ?_, hb⟩
        rw [HX.out]
        exact hN.rd)
      have HCHW : Hid (∀ W, Below w3.heap.size w3 W → Calls Try.prog 15 #[.slice Al cs.length cl] W fun e W' => ∃ A c, e = .returned (.slice A cs.length c) ∧ Kd.C k90 W' A cs.length (cs.map to90) ∧ Below W.heap.size W W') := Lib.hid (fun W hW => by
        refine (rchanges_any Al cl cs W (Kd.C_below HCs.out (below_then HLO3.out HLO3.out.size hW)) hcf).mono ?_
        rintro e W' ⟨A, c, rfl, _, hC, hb⟩
        exact ⟨A, c, rfl, hC, hb⟩)
      have HRFW : Hid (∀ W (Am : Option Addr) (cm : Nat), Below w3.heap.size w3 W → Kd.C k90 W Am cs.length (cs.map to90) → Calls Try.prog 14 #[bodyV s p A2 n2 c2 A3 l03.length c3, .int .i64 n, .slice As start.length cst, .slice Am cs.length cm, .bool every] W fun e W' => ∃ g, e = .returned (.slice (some ⟨g, 0, none⟩) l03.length l03.length) ∧ RD3 W' (some ⟨g, 0, none⟩) xsss ∧ Below W.heap.size W W') := Lib.hid (fun W Am cm hW hCm => by
        have hL := below_then HLO3.out HLO3.out.size hW
        have hrf := rflow_any s p A2 n2 c2 A3 c3 l03 n As cst start Am cm (cs.map to90) every W (Kd.C_below HC.out hL) HFEW.out hn30 (Kd.C_below HS.out hL) (by rw [List.length_map]; exact hCm)
        rw [List.length_map, chs90_to, ← HX.out] at hrf
        refine hrf.mono ?_
        rintro e W' ⟨g, us, rfl, hR, hb⟩
        exact ⟨g, rfl, hR.rd, hb⟩)
      have HSMW : Hid (∀ W (A B : Option Addr) (ca cb : Nat), RD3 W A xsss → RD3 W B xsss → Calls Try.prog 12 #[.slice A l03.length ca, .slice B l03.length cb] W fun e W' => e = .returned (.bool true) ∧ Drawn0 W W') := Lib.hid (fun W A B ca cb hA hB => by
        have h := rsame3_any W A B ca cb xsss hA hB (by rw [HXL.out]; exact hl3)
        rwa [HXL.out] at h)
      clear hx hxl hfew hfc e0 e1 e2 e3 HC HS HCs HWs
      go_wp2_with fail
      rename_i K hK
      refine start_ (n := 15) (S := fun w' => w'.cell? ⟨w.heap.size, 0, none⟩ = some (.string s) ∧ w'.cell? ⟨w.heap.size, 1, none⟩ = some (.int .i64 p) ∧ w'.cell? ⟨w.heap.size, 2, none⟩ = some (.slice A2 n2 c2) ∧ w'.cell? ⟨w.heap.size, 3, none⟩ = some (.slice A3 l03.length c3)) (ds := []) #[false, false, false, false, false, false, false, false, false, false, false, false, false, false, false] (by kernel_rfl) rfl rfl ⟨(HBX3.out.below (below_drew (Below.refl _ _)) HBX3.out.lt).cell 0 _ rfl, (HBX3.out.below (below_drew (Below.refl _ _)) HBX3.out.lt).cell 1 _ rfl, (HBX3.out.below (below_drew (Below.refl _ _)) HBX3.out.lt).cell 2 _ rfl, (HBX3.out.below (below_drew (Below.refl _ _)) HBX3.out.lt).cell 3 _ rfl⟩ (fun hHeld => ?_)
      refine pure_ (i := 1) (N := some 29) (v := ?_) (a' := ?_) #[false, true, false, false, false, false, false, false, false, false, false, false, false, false, false] rfl rfl (by kernel_rfl) (fun _ _ _ h => h) (Or.inl ⟨by rfl, ?_⟩) ?_ ?_
      rotate_left
      · intro w'
        go_simp
        with_reducible rfl
      rotate_left
      · simp only [Act.put, List.setIfInBounds_toArray, List.set_cons_zero, List.set_cons_succ, i64_w, i32_w]
        rfl
      refine pure_ (i := 2) (N := some 30) (v := ?_) (a' := ?_) #[false, true, true, false, false, false, false, false, false, false, false, false, false, false, false] rfl rfl (by kernel_rfl) (fun _ _ _ h => h) (Or.inl ⟨by rfl, ?_⟩) ?_ ?_
      rotate_left
      · intro w'
        go_simp
        with_reducible rfl
      rotate_left
      · simp only [Act.put, List.setIfInBounds_toArray, List.set_cons_zero, List.set_cons_succ, i64_w, i32_w]
        rfl
      refine pure_ (i := 3) (N := some 31) (v := ?_) (a' := ?_) #[false, true, true, true, false, false, false, false, false, false, false, false, false, false, false] rfl rfl (by kernel_rfl) (fun _ _ _ h => h) (Or.inl ⟨by rfl, ?_⟩) ?_ ?_
      rotate_left
      · intro w'
        go_simp
        with_reducible rfl
      rotate_left
      · simp only [Act.put, List.setIfInBounds_toArray, List.set_cons_zero, List.set_cons_succ, i64_w, i32_w]
        rfl
      refine pure_ (i := 4) (N := some 32) (v := ?_) (a' := ?_) #[false, true, true, true, true, false, false, false, false, false, false, false, false, false, false] rfl rfl (by kernel_rfl) (fun _ _ _ h => h) (Or.inl ⟨by rfl, ?_⟩) ?_ ?_
      rotate_left
      · intro w'
        go_simp
        with_reducible rfl
      rotate_left
      · simp only [Act.put, List.setIfInBounds_toArray, List.set_cons_zero, List.set_cons_succ, i64_w, i32_w]
        rfl
      refine pure_ (i := 7) (N := some 35) (v := ?_) (a' := ?_) #[false, true, true, true, true, false, false, true, false, false, false, false, false, false, false] rfl rfl (by kernel_rfl) (fun _ _ _ h => h) (Or.inl ⟨by rfl, ?_⟩) ?_ ?_
      rotate_left
      · intro w'
        go_simp
        with_reducible rfl
      rotate_left
      · simp only [Act.put, List.setIfInBounds_toArray, List.set_cons_zero, List.set_cons_succ, i64_w, i32_w]
        rfl
      refine pure_ (i := 8) (N := some 36) (v := ?_) (a' := ?_) #[false, true, true, true, true, false, false, true, true, false, false, false, false, false, false] rfl rfl (by kernel_rfl) (fun _ _ _ h => h) (Or.inl ⟨by rfl, ?_⟩) ?_ ?_
      rotate_left
      · intro w'
        go_simp
        with_reducible rfl
      rotate_left
      · simp only [Act.put, List.setIfInBounds_toArray, List.set_cons_zero, List.set_cons_succ, i64_w, i32_w]
        rfl
      refine pure_ (i := 9) (N := some 37) (v := ?_) (a' := ?_) #[false, true, true, true, true, false, false, true, true, true, false, false, false, false, false] rfl rfl (by kernel_rfl) (fun _ _ _ h => h) (Or.inl ⟨by rfl, ?_⟩) ?_ ?_
      rotate_left
      · intro w'
        go_simp
        with_reducible rfl
      rotate_left
      · simp only [Act.put, List.setIfInBounds_toArray, List.set_cons_zero, List.set_cons_succ, i64_w, i32_w]
        rfl
      refine pure_ (i := 11) (N := some 39) (v := ?_) (a' := ?_) #[false, true, true, true, true, false, false, true, true, true, false, true, false, false, false] rfl rfl (by kernel_rfl) (fun _ _ _ h => h) (Or.inl ⟨by rfl, ?_⟩) ?_ ?_
      rotate_left
      · intro w'
        go_simp
        with_reducible rfl
      rotate_left
      · simp only [Act.put, List.setIfInBounds_toArray, List.set_cons_zero, List.set_cons_succ, i64_w, i32_w]
        rfl
      refine take_ (i := 0) (N := some 28) (v := ?_) (a' := ?_) #[true, true, true, true, true, false, false, true, true, true, false, true, false, false, false] rfl rfl (by kernel_rfl) (fun _ _ _ h => h) (Or.inl ⟨by rfl, ?_⟩) hHeld ?_ ?_
      rotate_left
      · rintro w' ⟨s0, s1, s2, s3⟩
        go_simp
        with_reducible rfl
      rotate_left
      · simp only [Act.put, List.setIfInBounds_toArray, List.set_cons_zero, List.set_cons_succ, i64_w, i32_w]
        rfl
      refine take_ (i := 6) (N := some 34) (v := ?_) (a' := ?_) #[true, true, true, true, true, false, true, true, true, true, false, true, false, false, false] rfl rfl (by kernel_rfl) (fun _ _ _ h => h) (Or.inl ⟨by rfl, ?_⟩) hHeld ?_ ?_
      rotate_left
      · rintro w' ⟨s0, s1, s2, s3⟩
        go_simp
        with_reducible rfl
      rotate_left
      · simp only [Act.put, List.setIfInBounds_toArray, List.set_cons_zero, List.set_cons_succ, i64_w, i32_w]
        rfl
      refine one_ (i := 5) (N := some 33) #[true, true, true, true, true, true, true, true, true, true, false, true, false, false, false] rfl rfl (by kernel_rfl) (by decide) (fun K hK => ?_)
      refine goes_ Try.func13 (by kernel_rfl) rfl #[bodyV s p A2 n2 c2 A3 l03.length c3, .int .i64 n, .slice As start.length cst, .slice Al cs.length cl, .bool every] (by rfl) rfl rfl (by simp only [List.map_toArray, List.map_cons, List.map_nil]; rfl) ?_
      with_reducible refine (HFLW.out _ (below_drew (Below.refl _ _))).mono ?_
      rintro e w5 ⟨Ax, cx, rfl, hr5, hb5⟩
      refine ⟨_, rfl, ?_⟩
      have HB5 := Lib.hid (below_then (below_drew (Below.refl w3.heap.size w3)) (Nat.le_refl _) hb5)
      have HR5 := Lib.hid hr5
      clear hr5 hb5
      refine hK.out _ _ ⟨(HBX3.out.below HB5.out HBX3.out.lt).cell 0 _ rfl, (HBX3.out.below HB5.out HBX3.out.lt).cell 1 _ rfl, (HBX3.out.below HB5.out HBX3.out.lt).cell 2 _ rfl, (HBX3.out.below HB5.out HBX3.out.lt).cell 3 _ rfl⟩ (fun hHeld => ?_)
      clear hK K
      refine norm_ (a' := ?_) ?_ ?_
      rotate_left
      · show Act.put _ (some 33) _ = _
        simp only [Act.put, List.setIfInBounds_toArray, List.set_cons_zero, List.set_cons_succ, i64_w, i32_w]
        rfl
      refine one_ (i := 10) (N := some 38) #[true, true, true, true, true, true, true, true, true, true, true, true, false, false, false] rfl rfl (by kernel_rfl) (by decide) (fun K hK => ?_)
      refine goes_ Try.func15 (by kernel_rfl) rfl #[.slice Al cs.length cl] (by rfl) rfl rfl (by simp only [List.map_toArray, List.map_cons, List.map_nil]; rfl) ?_
      with_reducible refine (HCHW.out _ HB5.out).mono ?_
      rintro e w6 ⟨Am, cm, rfl, hc6, hb6⟩
      refine ⟨_, rfl, ?_⟩
      have HB6 := Lib.hid (below_then HB5.out HB5.out.size hb6)
      have HR6 := Lib.hid (HR5.out.below hb6)
      have HC6 := Lib.hid hc6
      clear hc6 hb6
      refine hK.out _ _ ⟨(HBX3.out.below HB6.out HBX3.out.lt).cell 0 _ rfl, (HBX3.out.below HB6.out HBX3.out.lt).cell 1 _ rfl, (HBX3.out.below HB6.out HBX3.out.lt).cell 2 _ rfl, (HBX3.out.below HB6.out HBX3.out.lt).cell 3 _ rfl⟩ (fun hHeld => ?_)
      clear hK K
      refine norm_ (a' := ?_) ?_ ?_
      rotate_left
      · show Act.put _ (some 38) _ = _
        simp only [Act.put, List.setIfInBounds_toArray, List.set_cons_zero, List.set_cons_succ, i64_w, i32_w]
        rfl
      refine one_ (i := 12) (N := some 40) #[true, true, true, true, true, true, true, true, true, true, true, true, true, false, false] rfl rfl (by kernel_rfl) (by decide) (fun K hK => ?_)
      refine goes_ Try.func14 (by kernel_rfl) rfl #[bodyV s p A2 n2 c2 A3 l03.length c3, .int .i64 n, .slice As start.length cst, .slice Am cs.length cm, .bool every] (by rfl) rfl rfl (by simp only [List.map_toArray, List.map_cons, List.map_nil]; rfl) ?_
      with_reducible refine (HRFW.out _ Am cm HB6.out HC6.out).mono ?_
      rintro e w7 ⟨g7, rfl, hr7, hb7⟩
      refine ⟨_, rfl, ?_⟩
      have HB7 := Lib.hid (below_then HB6.out HB6.out.size hb7)
      have HR7 := Lib.hid (HR6.out.below hb7)
      have HR7' := Lib.hid hr7
      clear hr7 hb7
      refine hK.out _ _ ⟨(HBX3.out.below HB7.out HBX3.out.lt).cell 0 _ rfl, (HBX3.out.below HB7.out HBX3.out.lt).cell 1 _ rfl, (HBX3.out.below HB7.out HBX3.out.lt).cell 2 _ rfl, (HBX3.out.below HB7.out HBX3.out.lt).cell 3 _ rfl⟩ (fun hHeld => ?_)
      clear hK K
      refine norm_ (a' := ?_) ?_ ?_
      rotate_left
      · show Act.put _ (some 40) _ = _
        simp only [Act.put, List.setIfInBounds_toArray, List.set_cons_zero, List.set_cons_succ, i64_w, i32_w]
        rfl
      refine one_ (i := 13) (N := some 41) #[true, true, true, true, true, true, true, true, true, true, true, true, true, true, false] rfl rfl (by kernel_rfl) (by decide) (fun K hK => ?_)
      refine goes_ Try.func12 (by kernel_rfl) rfl #[.slice Ax l03.length cx, .slice (some ⟨g7, 0, none⟩) l03.length l03.length] (by rfl) rfl rfl (by simp only [List.map_toArray, List.map_cons, List.map_nil]; rfl) ?_
      with_reducible refine (HSMW.out _ Ax (some ⟨g7, 0, none⟩) cx l03.length HR7.out HR7'.out).mono ?_
      rintro e w8 ⟨rfl, hd8⟩
      refine ⟨_, rfl, ?_⟩
      have HB8 := Lib.hid (below_then HB7.out HB7.out.size hd8.below)
      clear hd8
      refine hK.out _ _ ⟨(HBX3.out.below HB8.out HBX3.out.lt).cell 0 _ rfl, (HBX3.out.below HB8.out HBX3.out.lt).cell 1 _ rfl, (HBX3.out.below HB8.out HBX3.out.lt).cell 2 _ rfl, (HBX3.out.below HB8.out HBX3.out.lt).cell 3 _ rfl⟩ (fun hHeld => ?_)
      clear hK K
      refine norm_ (a' := ?_) ?_ ?_
      rotate_left
      · show Act.put _ (some 41) _ = _
        simp only [Act.put, List.setIfInBounds_toArray, List.set_cons_zero, List.set_cons_succ, i64_w, i32_w]
        rfl
      refine pure_ (i := 14) (N := some 13) (v := ?_) (a' := ?_) #[true, true, true, true, true, true, true, true, true, true, true, true, true, true, true] rfl rfl (by kernel_rfl) (fun _ _ _ h => h) (Or.inl ⟨by rfl, ?_⟩) ?_ ?_
      rotate_left
      · intro w'
        go_simp
        with_reducible rfl
      rotate_left
      · simp only [Act.put, List.setIfInBounds_toArray, List.set_cons_zero, List.set_cons_succ, i64_w, i32_w]
        rfl
      refine done_ (by kernel_rfl) ?_
      refine hK _ _ ?_
      clear hK K
      go_wp2_with fail
      go_ret
      exact ⟨rfl, below_then HLO3.out HLO3.out.size HB8.out⟩
end Go.Proofs.Ythgnbeeobhfeaaa.T
end
