/- Walks: the document's Lex. -/
import Derived.Test.YtaaoeaenhjaijaaDoorL7
import Derived.Deep.CutRange
namespace Go.Proofs.YtaaoeaenhjaijaaDoor
open Go.RowKit

section
variable {c : UInt8} {r : List UInt8}
theorem slash_iff : Lib.hasPrefix (c :: r) [47, 47] = true ↔ c.toNat = 47 ∧ ∃ d, r.head? = some d ∧ d.toNat = 47 := by
  have e : ∀ x : UInt8, x = 47 ↔ x.toNat = 47 := fun x => ⟨fun h => by subst h; rfl, fun h => by
    have : x.toNat = (47 : UInt8).toNat := h
    exact UInt8.toNat_inj.1 this⟩
  cases r with
  | nil => simp [Lib.hasPrefix]
  | cons d r =>
    simp only [Lib.hasPrefix, List.isPrefixOf, Bool.and_true, Bool.and_eq_true, beq_iff_eq, List.head?_cons, Option.some.injEq, exists_eq_left']
    rw [show ((47 : UInt8) = c ↔ c.toNat = 47) from eq_comm.trans (e c), show ((47 : UInt8) = d ↔ d.toNat = 47) from eq_comm.trans (e d)]
theorem blank_iff : (c :: r).head?.any (fun c => [(32 : UInt8), 9, 10].contains c) = true ↔ c.toNat = 32 ∨ c.toNat = 9 ∨ c.toNat = 10 := by
  have e : ∀ x y : UInt8, x = y ↔ x.toNat = y.toNat := fun x y => UInt8.toNat_inj.symm
  simp [e]
theorem piece_blank (h : c.toNat = 32 ∨ c.toNat = 9 ∨ c.toNat = 10) : piece (c :: r) = .skip 1 := by
  have hp : passedN (c :: r) = 1 := by
    rw [passedN, if_neg (fun q => by have := slash_iff.1 q; omega), if_pos (blank_iff.2 h)]
  rw [piece, hp, if_pos (by omega)]
theorem piece_rem (h : Lib.hasPrefix (c :: r) [47, 47] = true) : piece (c :: r) = .skip (run notNl (c :: r)) := by
  have hp : passedN (c :: r) = run notNl (c :: r) := by rw [passedN, if_pos h]
  have h47 := (slash_iff.1 h).1
  have : 0 < run notNl (c :: r) := run_pos (by simp [notNl]; omega)
  rw [piece, hp, if_pos this]
theorem piece_next (h1 : ¬ (c.toNat = 32 ∨ c.toNat = 9 ∨ c.toNat = 10)) (h2 : ¬ Lib.hasPrefix (c :: r) [47, 47] = true) : piece (c :: r) = nextP (c :: r) := by
  have hp : passedN (c :: r) = 0 := by rw [passedN, if_neg h2, if_neg (fun q => h1 (blank_iff.1 q))]
  rw [piece, hp, if_neg (by omega)]
theorem next_name (h : 0 < nameN (c :: r)) : nextP (c :: r) = if 24 < nameN (c :: r) then .bad 42 else .tok 1 (nameN (c :: r)) 0 := by
  have hl : isL c = true := by
    cases hc : isL c
    · simp [nameN, hc] at h
    · rfl
  have e : nameN (c :: r) = run isI (c :: r) := by simp [nameN, hl]
  rw [e]
  simp [nextP, hl]
theorem next_digit (h : nameN (c :: r) = 0) (h2 : 0 < run isD (c :: r)) : nextP (c :: r) = if 9223372036854775807 < value ((c :: r).take (run isD (c :: r))) then .bad 41 else .tok 2 (run isD (c :: r)) (value ((c :: r).take (run isD (c :: r)))) := by
  have hl : isL c = false := by
    cases hc : isL c
    · rfl
    · have : 0 < run isI (c :: r) := run_pos (by simp [isI, hc])
      simp [nameN, hc] at h
      omega
  have hd : isD c = true := by
    cases hc : isD c
    · rw [run_zero hc] at h2; omega
    · rfl
  simp only [nextP, hl, hd]
  rfl
theorem next_sign (h : nameN (c :: r) = 0) (h2 : run isD (c :: r) = 0) : nextP (c :: r) = if signLen (c :: r) = 0 then .bad 40 else .tok 3 (signLen (c :: r)) 0 := by
  have hl : isL c = false := by
    cases hc : isL c
    · rfl
    · have : 0 < run isI (c :: r) := run_pos (by simp [isI, hc])
      simp [nameN, hc] at h
      omega
  have hd : isD c = false := by
    cases hc : isD c
    · rfl
    · have := run_pos (l := r) hc; omega
  simp [nextP, hl, hd]
end

set_option maxRecDepth 100000 in
set_option maxHeartbeats 8000000 in
theorem rlex_any (s : ByteArray) (hs : s.size ≤ 9000000000000000000) (W : World) : Calls Tryd.prog 11 #[.string s] W fun e W' => LexEnd W W' s e ∧ Below W.heap.size W W' := by
  by_cases h6 : 65536 < s.size
  · have hr : lexB s = .error (43, 0) := by rw [lexB, if_pos h6]
    have HRr := Lib.hid hr
    clear hr
    go_enter Tryd.func11, Tryd.ntmps11
    go_wp2
    exact bodyPost_ret (v := .tuple #[.slice none 0 0, .int .i64 43, .int .i64 0]) (by (simp only [results, Tryd.results11]); go_simp) rfl ⟨.inl ⟨43, 0, HRr.out, rfl⟩, Below.refl _ _⟩
  have hB : lexB s = lexFrom s 0 := by rw [lexB, if_neg h6]
  have HB := Lib.hid hB
  have HI := Lib.hid (info_parts Tryd.info31)
  have X0 : Hid (Lx W W s 0 [] (.slice none 0 0)) := Lib.hid ⟨World.ownsRow_nil _ _ _ _, by cases lexFrom s 0 <;> simp [Except.map], Nat.zero_le _, Below.refl _ _⟩
  clear hB
  go_enter Tryd.func11, Tryd.ntmps11
  go_wp2_with fail
  go_loopw [5, 6] (fun lv i wr => ∃ (a : Nat) (ts : List Tk), a ≤ s.size ∧ i = .int .i64 a ∧ Hid (Lx W wr s a ts lv)) (fun _ i _ => s.size - (intOf i).toNat)
  case atStart => exact ⟨0, [], Nat.zero_le _, rfl, X0⟩
  case round =>
    obtain ⟨a, ts, ha, rfl, x⟩ := hrel
    clear X0
    obtain ⟨lA, lc, rfl⟩ := row_slice x.out.row
    have hti : (0 : Int) ≤ (a : Int) := by omega
    by_cases hlt : a < s.size
    · have htl : (a : Int) < (s.size : Int) := by omega
      have hsz : s.data.toList.length = s.size := Array.length_toList
      have hx0 : s.data.toList[a]? = some s[a] := by rw [List.getElem?_eq_getElem (by omega)]; rfl
      obtain ⟨r, hr⟩ : ∃ r, s.data.toList.drop a = s[a] :: r := ⟨s.data.toList.drop (a + 1), by
        rw [List.drop_eq_getElem_cons (by omega)]
        rfl⟩
      have HD := Lib.hid hr
      have hrh : r.head? = s.data.toList[a + 1]? := by
        have := congrArg (fun l => l[1]?) hr
        simpa [List.head?_eq_getElem?] using this.symm
      have HRH := Lib.hid hrh
      clear hr hrh hsz hx0
      go_upto_region 7 with fail
      go_cut [7, 31] from 15 to 145 (fun v7 c wx => ∃ d : Bool, v7 = .int .u8 s[a].toNat ∧ c = .bool d ∧ Hid (d = true ↔ (s[a].toNat = 32 ∨ s[a].toNat = 9 ∨ s[a].toNat = 10)) ∧ wx = wr)
      case first =>
        go_wp2_with fail
        all_goals
          go_meet
          case rel => exact ⟨_, by simp [*], rfl, Lib.hid (by simp <;> omega), rfl⟩
      case rest =>
        obtain ⟨d, rfl, rfl, hd, hw⟩ := hcut
        obtain rfl : wr = wc := hw.symm
        cases d
        · have hnb : ¬ (s[a].toNat = 32 ∨ s[a].toNat = 9 ∨ s[a].toNat = 10) := fun q => by have := hd.out.2 q; cases this
          have HNB := Lib.hid hnb
          clear hnb hd
          go_upto_region 9 with fail
          have h1 : (0 : Int) ≤ (a : Int) + 1 := by omega
          go_cut [7, 49] from 15 to 145 (fun v7 c wx => ∃ d : Bool, v7 = .int .u8 s[a].toNat ∧ c = .bool d ∧ Hid (d = true ↔ Lib.hasPrefix (s.data.toList.drop a) [47, 47] = true) ∧ wx = wr)
          case first =>
            by_cases h47 : s[a].toNat = 47
            · by_cases hl1 : a + 1 < s.size
              · have hx1 : s.data.toList[a + 1]? = some s[a + 1] := by
                  have hsz : s.data.toList.length = s.size := Array.length_toList
                  rw [List.getElem?_eq_getElem (by omega)]; rfl
                have hiff : Lib.hasPrefix (s.data.toList.drop a) [47, 47] = true ↔ s[a + 1].toNat = 47 := by
                  rw [HD.out, slash_iff, HRH.out, hx1]
                  simp [h47]
                have HIF := Lib.hid hiff
                have hl2 : (a : Int) + 1 < (s.size : Int) := by omega
                have hb47 : ((s[a].toNat : Int) == 47) = true := by simp [h47]
                have H47 := Lib.hid h47
                clear hiff hx1 h47
                go_wp2_with fail
                go_meet
                case rel => exact ⟨_, rfl, rfl, Lib.hid (by rw [HIF.out]; simp <;> omega), rfl⟩
              · have hiff : Lib.hasPrefix (s.data.toList.drop a) [47, 47] = false := by
                  rw [← Bool.not_eq_true]
                  intro q
                  rw [HD.out, slash_iff, HRH.out, List.getElem?_eq_none (by have hsz : s.data.toList.length = s.size := Array.length_toList; omega)] at q
                  simp at q
                have HIF := Lib.hid hiff
                have hl2 : ¬ ((a : Int) + 1 < (s.size : Int)) := by omega
                have hb47 : ((s[a].toNat : Int) == 47) = true := by simp [h47]
                have H47 := Lib.hid h47
                clear hiff h47
                go_wp2_with fail
                go_meet
                case rel => exact ⟨_, rfl, rfl, Lib.hid (by rw [HIF.out]), rfl⟩
            · have hiff : Lib.hasPrefix (s.data.toList.drop a) [47, 47] = false := by
                rw [← Bool.not_eq_true]
                intro q
                rw [HD.out, slash_iff] at q
                exact h47 q.1
              have HIF := Lib.hid hiff
              have hb47 : ((s[a].toNat : Int) == 47) = false := by simp; omega
              clear hiff h47
              go_wp2_with fail
              go_meet
              case rel => exact ⟨_, rfl, rfl, Lib.hid (by rw [HIF.out]), rfl⟩
          case rest =>
            obtain ⟨d, rfl, rfl, hd, hw⟩ := hcut
            obtain rfl : wr = wc := hw.symm
            cases d
            · have hnr : ¬ Lib.hasPrefix (s.data.toList.drop a) [47, 47] = true := fun q => by have := hd.out.2 q; cases this
              have hpn : piece (s.data.toList.drop a) = nextP (s.data.toList.drop a) := by
                rw [HD.out] at hnr ⊢
                exact piece_next HNB.out hnr
              have HPN := Lib.hid hpn
              have C1 := Lib.hid (rname_any s a ha (by omega))
              clear hnr hpn hd h1
              go_wp2_with fail
              refine (C1.out _).mono ?_
              rintro e w2 ⟨rfl, hw2⟩
              obtain rfl : wr = w2 := hw2.symm
              clear hw2 C1
              have hnle : nameN (s.data.toList.drop a) ≤ s.size - a := by
                have hsz : s.data.toList.length = s.size := Array.length_toList
                have := run_le isI (s.data.toList.drop a)
                rw [List.length_drop, hsz] at this
                unfold nameN
                split
                · exact this
                · omega
              by_cases hn0 : 0 < nameN (s.data.toList.drop a)
              · have hnx : nextP (s.data.toList.drop a) = if 24 < nameN (s.data.toList.drop a) then .bad 42 else .tok 1 (nameN (s.data.toList.drop a)) 0 := by
                  generalize hgn : nameN (s.data.toList.drop a) = n at *
                  rw [HD.out] at hgn ⊢
                  rw [← hgn]
                  exact next_name (by omega)
                have hp0 := HPN.out.trans hnx
                clear hnx
                generalize nameN (s.data.toList.drop a) = n at *
                by_cases h24 : 24 < n
                · rw [if_pos h24] at hp0
                  have HRr : Hid (lexB s = .error (42, a)) := Lib.hid (by rw [HB.out, x.out.all, lex_bad hlt hp0]; rfl)
                  clear hp0
                  go_wp2
                  exact bodyPost_ret (v := .tuple #[.slice none 0 0, .int .i64 42, .int .i64 a]) (by (simp only [results, Tryd.results11]); go_simp) rfl ⟨.inl ⟨42, a, HRr.out, rfl⟩, by repeat (first | exact x.out.old | apply w1_alloc | apply w1_drewN)⟩
                · rw [if_neg h24] at hp0
                  have hp := hp0
                  clear hp0
                  have XR := x
                  have X4a := fun (w1 : World) (nv : Value) (w0 : World) (hb : Below wr.heap.size wr w0) own grow => Lx.push (XR.out.below hb) hlt hp (w1 := w1) (nv := nv) own grow
                  have X4 := Lib.hid X4a
                  clear X4a
                  have few := XR.out.few
                  have hold := XR.out.old.size
                  obtain ⟨i0, hi0, hz0, hz1, hz2⟩ := HI.out
                  have hts : (s.extract a (a + n)).size = n := by simp <;> omega
                  have s0 : (0 : Int) ≤ (a : Int) := by omega
                  have s1 : (a : Int) ≤ (a : Int) + (n : Int) := by omega
                  have s2 : (a : Int) + (n : Int) ≤ (s.size : Int) := by omega
                  have htn : ((a : Int) + (n : Int)).toNat = a + n := by omega
                  clear hp
                  go_wp2_with (first
                    | (at_builtin; refine wpList_append_own_at _ rfl (.tmp 70) (.tmp 79) 23 rfl W.heap.size 31 i0 _ 4 40 Tryd.underlying23 hi0 hz0 hz1 hz2 rfl (by decide) _ ts.length (tcells ts) rfl ?_ _ 1 1 [.int .i64 1, .string (s.extract a (a + n)), .int .i64 0, .int .i64 a] rfl rfl ?_ ?_ ?_ ?_ ?_ ?_
                       (exact row_below XR.out.row (by repeat (first | exact Below.refl _ _ | apply w1_alloc | apply w1_drewN)))
                       (exact cell_row (by simp) _ _)
                       (intro u hu; simp at hu; rcases hu with rfl | rfl | rfl | rfl <;> rfl)
                       (simp only [maxLen]; omega)
                       omega
                       (simp <;> omega)
                       (intro v4 w4 own4 grow4 nil4 at4
                        clear nil4 at4
                        have X5 := Lib.hid (X4.out w4 v4 _ (by repeat (first | exact Below.refl _ _ | apply w1_alloc | apply w1_drewN)) own4 grow4)
                        clear own4 grow4)))
                  go_roundw
                  case rel => exact ⟨a + n, ts ++ [⟨1, s.extract a (a + n), 0, a⟩], by omega, by go_num, X5⟩
                  case measure => simp [intOf]; omega
              · have hnz : nameN (s.data.toList.drop a) = 0 := by omega
                rw [hnz]
                have HNZ := Lib.hid hnz
                obtain ⟨wo, rfl⟩ : ∃ wo : World, wo = wr := ⟨_, rfl⟩
                clear hnz hn0 hnle
                go_wp2_with fail
                go_loopw [8] (fun n wx => ∃ m : Nat, a + m ≤ s.size ∧ n = .int .i64 m ∧ Hid (∀ j x, j < m → s.data.toList[a + j]? = some x → isD x = true) ∧ wx = wo) (fun n _ => s.size - (intOf n).toNat)
                case atStart => exact ⟨0, by omega, rfl, Lib.hid (fun j x hj => absurd hj (Nat.not_lt_zero _)), rfl⟩
                case round =>
                  obtain ⟨m, hm, rfl, hno, hw⟩ := hrel
                  obtain rfl : wo = wr := hw.symm
                  clear hw
                  go_upto_region 18 with fail
                  go_cut [97] from 84 to 99 (fun c wx => ∃ d : Bool, c = .bool d ∧ Hid ((d = true → ∃ x, s.data.toList[a + m]? = some x ∧ isD x = true) ∧ (d = false → ∀ x, s.data.toList[a + m]? = some x → isD x = false)) ∧ wx = wo)
                  case first =>
                    have hsz : s.data.toList.length = s.size := Array.length_toList
                    by_cases hl : a + m < s.size
                    · have hl1 : (a : Int) + (m : Int) < (s.size : Int) := by omega
                      have hx : s.data.toList[a + m]? = some s[a + m] := by rw [List.getElem?_eq_getElem (by omega)]; rfl
                      have HX := Lib.hid hx
                      have h00 : (0 : Int) ≤ (a : Int) + (m : Int) := by omega
                      have CD := Lib.hid (rdigit_any s[a + m])
                      clear hx hsz
                      go_wp2_with fail
                      refine (CD.out _).mono ?_
                      rintro e w2 ⟨rfl, hw2⟩
                      obtain rfl : wo = w2 := hw2.symm
                      clear hw2
                      go_wp2_with fail
                      go_meet
                      case rel => exact ⟨_, rfl, Lib.hid ⟨fun q => ⟨_, HX.out, q⟩, fun q x hx => by rw [HX.out] at hx; injection hx with hx; rw [← hx]; exact q⟩, rfl⟩
                    · have hl1 : ¬ ((a : Int) + (m : Int) < (s.size : Int)) := by omega
                      have HX : Hid (s.data.toList[a + m]? = none) := Lib.hid (List.getElem?_eq_none (by omega))
                      clear hsz
                      go_wp2_with fail
                      go_meet
                      case rel => exact ⟨_, rfl, Lib.hid ⟨fun q => by (first | cases q | (simp at q)), fun q x hx => by rw [HX.out] at hx; cases hx⟩, rfl⟩
                  case rest =>
                    obtain ⟨d, rfl, hd, hw⟩ := hcut
                    obtain rfl : wo = wc := hw.symm
                    clear hw
                    cases d
                    · have hrun : run isD (s.data.toList.drop a) = m := run_at (fun j x hj hx => hno.out j x hj (by simpa using hx)) (fun x hx => hd.out.2 rfl x (by simpa using hx)) (by
                        have hsz : s.data.toList.length = s.size := Array.length_toList
                        rw [List.length_drop, hsz]; omega)
                      have hxt : (s.extract a (a + m)).data.toList = (s.data.toList.drop a).take m := by simp
                      by_cases hm0 : 0 < m
                      · have hts : (s.extract a (a + m)).size = m := by simp <;> omega
                        have C3 := Lib.hid (rnumber_any (s.extract a (a + m)) (by rw [hxt, ← hrun]; exact run_all) (by omega))
                        have hp0 : piece (s.data.toList.drop a) = if 9223372036854775807 < value (s.extract a (a + m)).data.toList then .bad 41 else .tok 2 m (value (s.extract a (a + m)).data.toList) := by
                          rw [HPN.out, hxt, ← hrun]
                          have e0 := HNZ.out
                          rw [HD.out] at hrun e0 ⊢
                          exact next_digit e0 (by omega)
                        have HP0 := Lib.hid hp0
                        have s0 : (0 : Int) ≤ (a : Int) := by omega
                        have s1 : (a : Int) ≤ (a : Int) + (m : Int) := by omega
                        have s2 : (a : Int) + (m : Int) ≤ (s.size : Int) := by omega
                        have htn : ((a : Int) + (m : Int)).toNat = a + m := by omega
                        clear hrun hxt hp0 hd
                        go_wp2_with fail
                        refine (C3.out _).mono ?_
                        rintro e w3 ⟨rfl, hw3⟩
                        obtain rfl : wo = w3 := hw3.symm
                        clear hw3 C3
                        by_cases hbig : 9223372036854775807 < value (s.extract a (a + m)).data.toList
                        · have hnv : numV (s.extract a (a + m)).data.toList = .tuple #[.int .i64 0, .bool false] := by rw [numV, if_pos hbig]
                          rw [hnv]
                          have HRr : Hid (lexB s = .error (41, a)) := Lib.hid (by rw [HB.out, x.out.all, lex_bad hlt (HP0.out.trans (if_pos hbig))]; rfl)
                          clear hnv hbig
                          go_wp2
                          exact bodyPost_ret (v := .tuple #[.slice none 0 0, .int .i64 41, .int .i64 a]) (by (simp only [results, Tryd.results11]); go_simp) rfl ⟨.inl ⟨41, a, HRr.out, rfl⟩, by repeat (first | exact x.out.old | apply w1_alloc | apply w1_drewN)⟩
                        · have hnv : numV (s.extract a (a + m)).data.toList = .tuple #[.int .i64 (value (s.extract a (a + m)).data.toList), .bool true] := by rw [numV, if_neg hbig]
                          rw [hnv]
                          have hp := HP0.out.trans (if_neg hbig)
                          clear hnv hbig
                          obtain ⟨va, hva⟩ : ∃ va : Int, va = (value (s.extract a (a + m)).data.toList : Int) := ⟨_, rfl⟩
                          rw [← hva] at hp ⊢
                          have HVA := Lib.hid hva
                          clear hva
                          have XR := x
                          have X4a := fun (w1 : World) (nv : Value) (w0 : World) (hb : Below wo.heap.size wo w0) own grow => Lx.push (XR.out.below hb) hlt hp (w1 := w1) (nv := nv) own grow
                          have X4 := Lib.hid X4a
                          clear X4a
                          have few := XR.out.few
                          have hold := XR.out.old.size
                          obtain ⟨i0, hi0, hz0, hz1, hz2⟩ := HI.out
                          clear hp
                          go_wp2_with (first
                            | (at_builtin; refine wpList_append_own_at _ rfl (.tmp 115) (.tmp 125) 23 rfl W.heap.size 31 i0 _ 4 40 Tryd.underlying23 hi0 hz0 hz1 hz2 rfl (by decide) _ ts.length (tcells ts) rfl ?_ _ 1 1 [.int .i64 2, .string (s.extract a (a + m)), .int .i64 va, .int .i64 a] rfl rfl ?_ ?_ ?_ ?_ ?_ ?_
                               (exact row_below XR.out.row (by repeat (first | exact Below.refl _ _ | apply w1_alloc | apply w1_drewN)))
                               (exact cell_row (by simp) _ _)
                               (intro u hu; simp at hu; rcases hu with rfl | rfl | rfl | rfl <;> rfl)
                               (simp only [maxLen]; omega)
                               omega
                               (simp <;> omega)
                               (intro v4 w4 own4 grow4 nil4 at4
                                clear nil4 at4
                                have X5 := Lib.hid (X4.out w4 v4 _ (by repeat (first | exact Below.refl _ _ | apply w1_alloc | apply w1_drewN)) own4 grow4)
                                clear own4 grow4)))
                          go_roundw
                          case rel => exact ⟨a + m, ts ++ [⟨2, (s.extract a (a + m)), va, a⟩], by omega, by go_num, X5⟩
                          case measure => simp [intOf]; omega
                      · obtain rfl : m = 0 := by omega
                        have C4 := Lib.hid (rsign_any s a hlt (by omega) wo)
                        have hp0 : piece (s.data.toList.drop a) = if signLen (s.data.toList.drop a) = 0 then .bad 40 else .tok 3 (signLen (s.data.toList.drop a)) 0 := by
                          rw [HPN.out]
                          have e0 := HNZ.out
                          generalize hsl : signLen (s.data.toList.drop a) = k
                          rw [HD.out] at hrun e0 hsl ⊢
                          rw [← hsl]
                          exact next_sign e0 hrun
                        have hle := signLen_le (s.data.toList.drop a)
                        rw [List.length_drop, show s.data.toList.length = s.size from Array.length_toList] at hle
                        have hts : (s.extract a (a + signLen (s.data.toList.drop a))).size = signLen (s.data.toList.drop a) := by simp <;> omega
                        clear hrun hxt hd
                        go_wp2_with fail
                        refine C4.out.mono ?_
                        rintro e w3 ⟨rfl, b3⟩
                        have X3 := Lib.hid (x.out.below b3)
                        clear C4 b3
                        generalize signLen (s.data.toList.drop a) = k at *
                        by_cases hk0 : k = 0
                        · rw [if_pos hk0] at hp0
                          have HRr : Hid (lexB s = .error (40, a)) := Lib.hid (by rw [HB.out, x.out.all, lex_bad hlt hp0]; rfl)
                          have hem : (s.extract a (a + k)).toList = [] := by
                            rw [ByteArray.toList_eq, ← List.length_eq_zero_iff]
                            exact hts.trans hk0
                          clear hp0 hts
                          go_wp2
                          exact bodyPost_ret (v := .tuple #[.slice none 0 0, .int .i64 40, .int .i64 a]) (by (simp only [results, Tryd.results11]); go_simp) rfl ⟨.inl ⟨40, a, HRr.out, rfl⟩, by repeat (first | exact X3.out.old | apply w1_alloc | apply w1_drewN)⟩
                        · rw [if_neg hk0] at hp0
                          have hp := hp0
                          have hem : (s.extract a (a + k)).toList.isEmpty = false := by
                            rw [List.isEmpty_eq_false_iff, ByteArray.toList_eq]
                            intro q
                            have := congrArg List.length q
                            exact hk0 (hts.symm.trans this)
                          have XR := X3
                          have X4a := fun (w1 : World) (nv : Value) (w0 : World) (hb : Below w3.heap.size w3 w0) own grow => Lx.push (XR.out.below hb) hlt hp (w1 := w1) (nv := nv) own grow
                          have X4 := Lib.hid X4a
                          have few := XR.out.few
                          have hold := XR.out.old.size
                          obtain ⟨i0, hi0, hz0, hz1, hz2⟩ := HI.out
                          clear X4a hp hp0
                          go_wp2_with (first
                            | (at_builtin; refine wpList_append_own_at _ rfl (.tmp 136) (.tmp 140) 23 rfl W.heap.size 31 i0 _ 4 40 Tryd.underlying23 hi0 hz0 hz1 hz2 rfl (by decide) _ ts.length (tcells ts) rfl ?_ _ 1 1 [.int .i64 3, .string (s.extract a (a + k)), .int .i64 0, .int .i64 a] rfl rfl ?_ ?_ ?_ ?_ ?_ ?_
                               (exact row_below XR.out.row (by repeat (first | exact Below.refl _ _ | apply w1_alloc | apply w1_drewN)))
                               (exact cell_row (by simp) _ _)
                               (intro u hu; simp at hu; rcases hu with rfl | rfl | rfl | rfl <;> rfl)
                               (simp only [maxLen]; omega)
                               omega
                               (simp <;> omega)
                               (intro v4 w4 own4 grow4 nil4 at4
                                clear nil4 at4
                                have X5 := Lib.hid (X4.out w4 v4 _ (by repeat (first | exact Below.refl _ _ | apply w1_alloc | apply w1_drewN)) own4 grow4)
                                clear own4 grow4)))
                          go_roundw
                          case rel => exact ⟨a + k, ts ++ [⟨3, (s.extract a (a + k)), 0, a⟩], by omega, by go_num, X5⟩
                          case measure => simp [intOf]; omega
                    · obtain ⟨xd, hxd, hxt⟩ := hd.out.1 rfl
                      have hl1 : a + m < s.size := by
                        have hsz : s.data.toList.length = s.size := Array.length_toList
                        have := (List.getElem?_eq_some_iff.1 hxd).1
                        omega
                      have HN : Hid (∀ j x, j < m + 1 → s.data.toList[a + j]? = some x → isD x = true) := Lib.hid (fun j x hj hx => by
                        by_cases e : j = m
                        · subst e; rw [hxd] at hx; injection hx with hx; rw [← hx]; exact hxt
                        · exact hno.out j x (by omega) hx)
                      clear hxd hxt hd
                      go_wp2
                      go_roundw
                      case rel => exact ⟨m + 1, by omega, by go_num, HN, by trivial⟩
                      case measure => simp [intOf]; omega
            · have hr := hd.out.1 rfl
              have hp : piece (s.data.toList.drop a) = .skip (run notNl (s.data.toList.drop a)) := by
                rw [HD.out] at hr ⊢
                exact piece_rem hr
              have X2 := Lib.hid (x.out.skip hlt hp)
              have HR1 := Lib.hid (piece_skip hp).1
              obtain ⟨wo, rfl⟩ : ∃ wo : World, wo = wr := ⟨_, rfl⟩
              clear hp hr hd
              go_wp2_with fail
              go_loopw [6] (fun n wx => ∃ m : Nat, a + m ≤ s.size ∧ n = .int .i64 ((a + m : Nat) : Int) ∧ Hid (∀ j x, j < m → s.data.toList[a + j]? = some x → notNl x = true) ∧ wx = wo) (fun n _ => s.size - (intOf n).toNat)
              case atStart => exact ⟨0, by omega, rfl, Lib.hid (fun j x hj => absurd hj (Nat.not_lt_zero _)), rfl⟩
              case round =>
                obtain ⟨m, hm, rfl, hno, hw⟩ := hrel
                obtain rfl : wo = wr := hw.symm
                clear hw
                go_upto_region 10 with fail
                go_cut [59] from 50 to 61 (fun c wx => ∃ d : Bool, c = .bool d ∧ Hid ((d = true → ∃ x, s.data.toList[a + m]? = some x ∧ notNl x = true) ∧ (d = false → ∀ x, s.data.toList[a + m]? = some x → notNl x = false)) ∧ wx = wo)
                case first =>
                  have hsz : s.data.toList.length = s.size := Array.length_toList
                  by_cases hl : a + m < s.size
                  · have hl1 : ((a + m : Nat) : Int) < (s.size : Int) := by omega
                    have hx : s.data.toList[a + m]? = some s[a + m] := by rw [List.getElem?_eq_getElem (by omega)]; rfl
                    have HX := Lib.hid hx
                    have h00 : (0 : Int) ≤ ((a + m : Nat) : Int) := by omega
                    clear hx hsz
                    by_cases h10 : s[a + m].toNat = 10
                    · have hb10 : ((s[a + m].toNat : Int) != 10) = false := by simp [h10]
                      have HT : Hid (notNl s[a + m] = false) := Lib.hid (by simp [notNl, h10])
                      have H10 := Lib.hid h10
                      clear h10
                      go_wp2_with fail
                      go_meet
                      case rel => exact ⟨_, rfl, Lib.hid ⟨fun q => by (first | cases q | (simp at q)), fun q x hx => by rw [HX.out] at hx; injection hx with hx; rw [← hx]; exact HT.out⟩, rfl⟩
                    · have hb10 : ((s[a + m].toNat : Int) != 10) = true := by simp; omega
                      have HT : Hid (notNl s[a + m] = true) := Lib.hid (by simp [notNl, h10])
                      have H10 := Lib.hid h10
                      clear h10
                      go_wp2_with fail
                      go_meet
                      case rel => exact ⟨_, rfl, Lib.hid ⟨fun q => ⟨_, HX.out, HT.out⟩, fun q x hx => by (first | cases q | (simp at q))⟩, rfl⟩
                  · have hl1 : ¬ (((a + m : Nat) : Int) < (s.size : Int)) := by omega
                    have HX : Hid (s.data.toList[a + m]? = none) := Lib.hid (List.getElem?_eq_none (by omega))
                    clear hsz
                    go_wp2_with fail
                    go_meet
                    case rel => exact ⟨_, rfl, Lib.hid ⟨fun q => by (first | cases q | (simp at q)), fun q x hx => by rw [HX.out] at hx; cases hx⟩, rfl⟩
                case rest =>
                  obtain ⟨d, rfl, hd, hw⟩ := hcut
                  obtain rfl : wo = wc := hw.symm
                  clear hw
                  cases d
                  · have hrun : run notNl (s.data.toList.drop a) = m := run_at (fun j x hj hx => hno.out j x hj (by simpa using hx)) (fun x hx => hd.out.2 rfl x (by simpa using hx)) (by
                      have hsz : s.data.toList.length = s.size := Array.length_toList
                      rw [List.length_drop, hsz]; omega)
                    have hm1 : 0 < m := by
                      rw [← hrun]
                      exact HR1.out
                    have X3 : Hid (Lx W wo s (a + m) ts (.slice lA ts.length lc)) := Lib.hid (by rw [← hrun]; exact X2.out)
                    clear hrun hd
                    go_wp2
                    go_roundw
                    case rel => exact ⟨a + m, ts, by omega, by go_num, X3⟩
                    case measure => simp [intOf]; omega
                  · obtain ⟨xd, hxd, hxt⟩ := hd.out.1 rfl
                    have hl1 : a + m < s.size := by
                      have hsz : s.data.toList.length = s.size := Array.length_toList
                      have := (List.getElem?_eq_some_iff.1 hxd).1
                      omega
                    have HN : Hid (∀ j x, j < m + 1 → s.data.toList[a + j]? = some x → notNl x = true) := Lib.hid (fun j x hj hx => by
                      by_cases e : j = m
                      · subst e; rw [hxd] at hx; injection hx with hx; rw [← hx]; exact hxt
                      · exact hno.out j x (by omega) hx)
                    clear hxd hxt hd
                    go_wp2
                    go_roundw
                    case rel => exact ⟨m + 1, by omega, by go_num, HN, by trivial⟩
                    case measure => simp [intOf]; omega
        · have hbl := hd.out.1 rfl
          have hp := piece_blank (r := r) hbl
          rw [← HD.out] at hp
          have X2 := Lib.hid (x.out.skip hlt hp)
          clear hp hbl hd
          go_wp2
          go_roundw
          case rel => exact ⟨a + 1, ts, by omega, by go_num, X2⟩
          case measure => simp [intOf]; omega
    · obtain rfl : a = s.size := by omega
      have few := x.out.few
      have hold := x.out.old.size
      obtain ⟨i0, hi0, hz0, hz1, hz2⟩ := HI.out
      have HRr : Hid (lexB s = .ok (ts ++ [⟨0, ⟨#[]⟩, 0, s.size⟩])) := Lib.hid (by rw [HB.out, x.out.all, lex_end hlt]; rfl)
      go_wp2_with (first
        | (at_builtin; refine wpList_append_own_at _ rfl (.tmp 146) (.tmp 150) 23 rfl W.heap.size 31 i0 _ 4 40 Tryd.underlying23 hi0 hz0 hz1 hz2 rfl (by decide) _ ts.length (tcells ts) rfl ?_ _ 1 1 [.int .i64 0, .string ⟨#[]⟩, .int .i64 0, .int .i64 s.size] rfl rfl ?_ ?_ ?_ ?_ ?_ ?_
           (exact row_below x.out.row (by repeat (first | exact Below.refl _ _ | apply w1_alloc | apply w1_drewN)))
           (exact cell_row (by simp) _ _)
           (intro u hu; simp at hu; rcases hu with rfl | rfl | rfl | rfl <;> rfl)
           (simp only [maxLen]; omega)
           omega
           (simp <;> omega)
           (intro v4 w4 own4 grow4 nil4 at4
            clear nil4 at4
            have HO := Lib.hid own4
            have HG := Lib.hid grow4
            clear own4 grow4)))
      refine bodyPost_ret (v := .tuple #[v4, .int .i64 0, .int .i64 0]) (by (simp only [results, Tryd.results11]); go_simp) rfl ?_
      refine ⟨.inr ⟨_, v4, HRr.out, ?_, by simp; omega, rfl⟩, ?_⟩
      · rw [tcells_append, List.length_append]
        exact HO.out
      · exact (Below.grown (show Below W.heap.size W _ by repeat (first | exact x.out.old | apply w1_alloc | apply w1_drewN)) HG.out (by simp <;> omega) (fun k hk => (row_lt x.out.row k hk).1))
end Go.Proofs.YtaaoeaenhjaijaaDoor
