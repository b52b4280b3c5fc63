/- Texts of this claim in one file: R16, R17, R18, R19, R20. -/
import Derived.Deep.WholeRow
import Derived.Test.YtjoiflokekebkaaGreatDoorM6
import Derived.Test.YtjoiflokekebkaaGreatDoorM4
import Derived.Defers
import Derived.Recover
import Derived.Test.YtjoiflokekebkaaGreatDoorM2
set_option linter.all false
section
/- Walks: an item. -/
namespace Go.Proofs.YtjoiflokekebkaaGreatDoor
open Go.RowKit Go.Proofs.YtjoiflokekebkaaGreatDoorW.PrintLast

theorem SrcAt.add_ss {S E m : Nat} {col : Nat → Nat} {w : World} {s : Src} {x : Str} {A1 A2 A3 : Option Addr} {c1 c2 c3 : Nat} {u : Value} (hb : Bx 26 w S #[u, (.slice A2 s.es.length c2), (.slice A3 s.fs.length c3)]) (hE : S < E ∧ E < m ∧ col E = 3) (be : Bx 115 w E #[.int .i64 0, .int .i64 0]) (hes : Rd w (fun j => S < j ∧ j < m ∧ col j = 1) (.slice A2 s.es.length c2) (.row 85 3 (s.es.map Enm.d))) (hfs : Rd w (fun j => S < j ∧ j < m ∧ col j = 2) (.slice A3 s.fs.length c3) (.row 50 4 (s.fs.map Fnc.d)))
    (hn : Rd w (fun j => S < j ∧ (if j < m then col j else 0) = 0) u (.row 75 4 (s.ss.map Str.d ++ [Str.d x]))) : SrcAt S E w { s with ss := s.ss ++ [x] } := by
  obtain ⟨A, c, rfl⟩ := hn.slice
  have hl : (s.ss.map Str.d ++ [Str.d x]).length = (s.ss ++ [x]).length := by simp
  have hm : s.ss.map Str.d ++ [Str.d x] = (s.ss ++ [x]).map Str.d := by simp
  rw [hl, hm] at hn
  rw [hl] at hb
  exact ⟨w.heap.size, fun j => if j < m then col j else 0, A, c, A2, c2, A3, c3, hb, ⟨hE.1, blk_lt be, by rw [if_pos hE.2.1]; exact hE.2.2⟩, be, (hn.bound.mono (fun k hk => ⟨hk.1.1, hk.2, hk.1.2⟩)), (hes.bound.mono (fun k hk => ⟨hk.1.1, hk.2, by rw [if_pos hk.1.2.1]; exact hk.1.2.2⟩)), (hfs.bound.mono (fun k hk => ⟨hk.1.1, hk.2, by rw [if_pos hk.1.2.1]; exact hk.1.2.2⟩))⟩
theorem SrcAt.add_es {S E m : Nat} {col : Nat → Nat} {w : World} {s : Src} {x : Enm} {A1 A2 A3 : Option Addr} {c1 c2 c3 : Nat} {u : Value} (hb : Bx 26 w S #[(.slice A1 s.ss.length c1), u, (.slice A3 s.fs.length c3)]) (hE : S < E ∧ E < m ∧ col E = 3) (be : Bx 115 w E #[.int .i64 0, .int .i64 0]) (hss : Rd w (fun j => S < j ∧ j < m ∧ col j = 0) (.slice A1 s.ss.length c1) (.row 75 4 (s.ss.map Str.d))) (hfs : Rd w (fun j => S < j ∧ j < m ∧ col j = 2) (.slice A3 s.fs.length c3) (.row 50 4 (s.fs.map Fnc.d)))
    (hn : Rd w (fun j => S < j ∧ (if j < m then col j else 1) = 1) u (.row 85 3 (s.es.map Enm.d ++ [Enm.d x]))) : SrcAt S E w { s with es := s.es ++ [x] } := by
  obtain ⟨A, c, rfl⟩ := hn.slice
  have hl : (s.es.map Enm.d ++ [Enm.d x]).length = (s.es ++ [x]).length := by simp
  have hm : s.es.map Enm.d ++ [Enm.d x] = (s.es ++ [x]).map Enm.d := by simp
  rw [hl, hm] at hn
  rw [hl] at hb
  exact ⟨w.heap.size, fun j => if j < m then col j else 1, A1, c1, A, c, A3, c3, hb, ⟨hE.1, blk_lt be, by rw [if_pos hE.2.1]; exact hE.2.2⟩, be, (hss.bound.mono (fun k hk => ⟨hk.1.1, hk.2, by rw [if_pos hk.1.2.1]; exact hk.1.2.2⟩)), (hn.bound.mono (fun k hk => ⟨hk.1.1, hk.2, hk.1.2⟩)), (hfs.bound.mono (fun k hk => ⟨hk.1.1, hk.2, by rw [if_pos hk.1.2.1]; exact hk.1.2.2⟩))⟩
theorem SrcAt.add_fs {S E m : Nat} {col : Nat → Nat} {w : World} {s : Src} {x : Fnc} {A1 A2 A3 : Option Addr} {c1 c2 c3 : Nat} {u : Value} (hb : Bx 26 w S #[(.slice A1 s.ss.length c1), (.slice A2 s.es.length c2), u]) (hE : S < E ∧ E < m ∧ col E = 3) (be : Bx 115 w E #[.int .i64 0, .int .i64 0]) (hss : Rd w (fun j => S < j ∧ j < m ∧ col j = 0) (.slice A1 s.ss.length c1) (.row 75 4 (s.ss.map Str.d))) (hes : Rd w (fun j => S < j ∧ j < m ∧ col j = 1) (.slice A2 s.es.length c2) (.row 85 3 (s.es.map Enm.d)))
    (hn : Rd w (fun j => S < j ∧ (if j < m then col j else 2) = 2) u (.row 50 4 (s.fs.map Fnc.d ++ [Fnc.d x]))) : SrcAt S E w { s with fs := s.fs ++ [x] } := by
  obtain ⟨A, c, rfl⟩ := hn.slice
  have hl : (s.fs.map Fnc.d ++ [Fnc.d x]).length = (s.fs ++ [x]).length := by simp
  have hm : s.fs.map Fnc.d ++ [Fnc.d x] = (s.fs ++ [x]).map Fnc.d := by simp
  rw [hl, hm] at hn
  rw [hl] at hb
  exact ⟨w.heap.size, fun j => if j < m then col j else 2, A1, c1, A2, c2, A, c, hb, ⟨hE.1, blk_lt be, by rw [if_pos hE.2.1]; exact hE.2.2⟩, be, (hss.bound.mono (fun k hk => ⟨hk.1.1, hk.2, by rw [if_pos hk.1.2.1]; exact hk.1.2.2⟩)), (hes.bound.mono (fun k hk => ⟨hk.1.1, hk.2, by rw [if_pos hk.1.2.1]; exact hk.1.2.2⟩)), (hn.bound.mono (fun k hk => ⟨hk.1.1, hk.2, hk.1.2⟩))⟩
set_option maxRecDepth 100000 in
set_option maxHeartbeats 32000000 in
theorem item_rd {W w0 : World} {R S E : Nat} {ts : List Tk} {s : Src} (h : Rdr w0 R ts) (hg0 : W.grownBy w0 (some R)) (hR : R < W.heap.size) (hS : W.heap.size ≤ S) (hs : SrcAt S E w0 s) (hl : s.ss.length ≤ 100000 ∧ s.es.length ≤ 100000 ∧ s.fs.length ≤ 100000) :
    Calls Tryz.prog 103 #[.pointer (some ⟨R, 0, none⟩), .pointer (some ⟨S, 0, none⟩)] w0 fun e w' => Item s W R S E ts e w' := by
  obtain ⟨hls, hle_, hlf⟩ := hl
  obtain ⟨N, col, A1, c1, A2, c2, A3, c3, hs⟩ := hs
  have HG := Lib.hid hg0
  have HR := Lib.hid h
  have HS := Lib.hid hs
  have hRS : R < S := by omega
  have hf := tok_at
  have hmf := mf
  clear h hg0 hs
  go_enter Tryz.func103, Tryz.ntmps103
  go_wp2_with fail
  refine (next_rd HR.out).mono ?_
  rintro e w1 ⟨rfl, hb⟩
  have HG_ := Lib.hid (grown_then HG.out hb HG.out.size)
  have HR_ := Lib.hid (HR.out.below hb HR.out.lt)
  have HS_ := Lib.hid (HS.out.bel hb)
  clear hb HG HR HS
  have HG := HG_
  have HR := HR_
  have HS := HS_
  clear HG_ HR_ HS_
  obtain ⟨at_, hat⟩ : ∃ a, a = (hd ts).at_ := ⟨_, rfl⟩
  have HAT := Lib.hid hat
  rw [← hat]
  clear hat
  go_wp2_with fail
  refine (opt_rd HR.out ⟨#[100, 114, 111, 112]⟩).mono ?_
  rintro e w2 ⟨hg, ⟨hw, rfl, hr⟩ | ⟨hw, rfl, hr⟩⟩
  · skip
    have HIT : Hid (itemP s ts = ((structP true at_).bd fun x => .ret { s with ss := s.ss ++ [x] }) ts.tail) := Lib.hid (by rw [item_drop hw, ← HAT.out])
    clear hw
    have HG_ := Lib.hid (World.grownBy.trans HG.out hg)
    have HR_ := Lib.hid hr
    have HS_ := Lib.hid (HS.out.kept hg (by omega))
    clear hg hr HG HR HS
    have HG := HG_
    have HR := HR_
    have HS := HS_
    clear HG_ HR_ HS_
    go_wp2_with fail
    refine (must_rd HR.out ⟨#[115, 116, 114, 117, 99, 116]⟩).mono ?_
    rintro e w3 ⟨hg, ⟨⟨⟩, u1, v, hp, rfl, rfl, hr, hle⟩ | ⟨er, at9, hp, rfl⟩⟩
    · skip
      have HP2 := Lib.hid hp
      have HLE2 := Lib.hid hle
      clear hp hle
      have HG_ := Lib.hid (World.grownBy.trans HG.out hg)
      have HR_ := Lib.hid hr
      have HS_ := Lib.hid (HS.out.kept hg (by omega))
      clear hg hr HG HR HS
      have HG := HG_
      have HR := HR_
      have HS := HS_
      clear HG_ HR_ HS_
      go_wp2_with fail
      refine (name_rd HR.out true).mono ?_
      rintro e w4 ⟨hg, ⟨n, u2, v, hp, rfl, rfl, hr, hle⟩ | ⟨er, at9, hp, rfl⟩⟩
      · skip
        have HP3 := Lib.hid hp
        have HLE3 := Lib.hid hle
        clear hp hle
        have HG_ := Lib.hid (World.grownBy.trans HG.out hg)
        have HR_ := Lib.hid hr
        have HS_ := Lib.hid (HS.out.kept hg (by omega))
        clear hg hr HG HR HS
        have HG := HG_
        have HR := HR_
        have HS := HS_
        clear HG_ HR_ HS_
        have HS_ := Lib.hid HS.out.bound
        clear HS
        have HS := HS_
        clear HS_
        have hSm : S < w4.heap.size := blk_lt HS.out.bx
        have hlm : W.heap.size ≤ w4.heap.size := HG.out.size
        have HG_ := Lib.hid (grown_alloc HG.out (.cells #[.string n, .bool true, .slice none 0 0, .int .i64 at_] 75))
        have HR_ := Lib.hid (HR.out.below (bel_one HR.out.lt (.cells #[.string n, .bool true, .slice none 0 0, .int .i64 at_] 75)) (by omega))
        have HS_ := Lib.hid (HS.out.bel ((Below.refl _ _).alloc (Nat.le_refl _) (.cells #[.string n, .bool true, .slice none 0 0, .int .i64 at_] 75)))
        have HY_ : Hid (Bx 75 (w4.alloc (.cells #[.string n, .bool true, .slice none 0 0, .int .i64 at_] 75)) w4.heap.size #[.string n, .bool true, .slice none 0 0, .int .i64 at_]) := Lib.hid (.newAt rfl)
        clear HG HR HS
        have HG := HG_
        have HR := HR_
        have HS := HS_
        clear HG_ HR_ HS_
        have HY := HY_
        clear HY_
        go_wp2_with (first
          | (with_reducible refine wpList_store_row (o := ⟨none, .store 75 (.tmp 6) (.tmp 53), _, _, _, _⟩) rfl 75 _ _ rfl (w4.heap.size) #[.string n, .bool true, .slice none 0 0, .int .i64 at_] rfl rfl 75 #[.string ⟨#[]⟩, .bool false, .slice none 0 0, .int .i64 0] (heap_alloc_new w4 _) (by kernel_rfl) (by kernel_rfl) (by kernel_rfl) ?_
             rw [World.setRow_alloc_new]))
        generalize w4.alloc (.cells #[.string n, .bool true, .slice none 0 0, .int .i64 at_] 75) = w5 at *
        generalize w4.heap.size = m at *
        refine (must_rd HR.out ⟨#[123]⟩).mono ?_
        rintro e w6 ⟨hg, ⟨⟨⟩, u3, v, hp, rfl, rfl, hr, hle⟩ | ⟨er, at9, hp, rfl⟩⟩
        · skip
          have HP4 := Lib.hid hp
          have HLE4 := Lib.hid hle
          clear hp hle
          have HG_ := Lib.hid (World.grownBy.trans HG.out hg)
          have HR_ := Lib.hid hr
          have HY_ := Lib.hid (HY.out.kept hg (by omega))
          have HS_ := Lib.hid (HS.out.kept hg (by omega))
          clear hg hr HG HR HY HS
          have HG := HG_
          have HR := HR_
          have HY := HY_
          have HS := HS_
          clear HG_ HR_ HY_ HS_
          go_wp2_with fail
          refine (list_Field HR.out ⟨#[125]⟩).mono ?_
          rintro e w7 ⟨hg, ⟨l, u4, v, hp, rfl, hv, hr, hle⟩ | ⟨er, at9, hp, rfl⟩⟩
          · skip
            obtain ⟨A9, c9, rfl⟩ := hv.slice
            rw [List.length_map] at hv ⊢
            have hm3 := blk_lt HY.out
            have HL := Lib.hid (hv.low (m := m + 1) (by omega))
            clear hv hm3
            have HP5 := Lib.hid hp
            have HLE5 := Lib.hid hle
            clear hp hle
            have HG_ := Lib.hid (World.grownBy.trans HG.out hg)
            have HR_ := Lib.hid hr
            have HY_ := Lib.hid (HY.out.kept hg (by omega))
            have HS_ := Lib.hid (HS.out.kept hg (by omega))
            clear hg hr HG HR HY HS
            have HG := HG_
            have HR := HR_
            have HY := HY_
            have HS := HS_
            clear HG_ HR_ HY_ HS_
            obtain ⟨lHY, cHY, fHY⟩ := HY.out.see
            have HPUT := Lib.hid (Put.set (Put.refl m (m + 1) w7) (p := ⟨m, 2, none⟩) (by simp only; omega) (by simp only; omega) (.slice A9 l.length c9))
            have HG_ := Lib.hid (HPUT.out.grown HG.out (by omega))
            have HR_ := Lib.hid (HR.out.put HPUT.out (by omega))
            have HY_ : Hid (Bx 75 (w7.setCell ⟨m, 2, none⟩ (.slice A9 l.length c9)) m #[.string n, .bool true, .slice A9 l.length c9, .int .i64 at_]) := Lib.hid (by have h := HY.out.set 2 (.slice A9 l.length c9); simpa using h)
            have HS_ := Lib.hid (HS.out.put HPUT.out hSm (Nat.le_refl _))
            have HL_ := Lib.hid (HL.out.put HPUT.out (Nat.le_refl _))
            clear HPUT HG HR HY HS HL
            have HG := HG_
            have HR := HR_
            have HY := HY_
            have HS := HS_
            have HL := HL_
            clear HG_ HR_ HY_ HS_ HL_
            go_wp2_with fail
            clear lHY cHY fHY
            generalize (w7.setCell ⟨m, 2, none⟩ (.slice A9 l.length c9)) = w8 at *
            have HPF : Hid (itemP s ts = .ok ({ s with ss := s.ss ++ [(⟨n, true, l, at_⟩ : Str)] }, u4)) := Lib.hid (by rw [HIT.out, Ps.bd_ok (show _ = Except.ok ((⟨n, true, l, at_⟩ : Str), u4) from by rw [structP, Ps.bd_ok HP2.out, Ps.bd_ok HP3.out, Ps.bd_ok HP4.out, Ps.bd_ok HP5.out]; exact rfl)]; exact rfl)
            have HGd := Lib.hid (grown_then HG.out (bel_drew (Below.refl w8.heap.size w8)) HG.out.size)
            have HRd := Lib.hid (HR.out.below (bel_drew (Below.refl w8.heap.size w8)) HR.out.lt)
            have HSd := Lib.hid (HS.out.bel (bel_drew (Below.refl w8.heap.size w8)))
            have HYd := Lib.hid (HY.out.drew)
            have HLd := Lib.hid (HL.out.bel (bel_drew (Below.refl w8.heap.size w8)))
            have hm9 : m < w8.drew.heap.size := blk_lt HYd.out
            have HOB : Hid (∀ k, (Value.slice A1 s.ss.length c1).ownBlock = some k → S < k ∧ k < m ∧ col k = 0) := Lib.hid (fun k hk => by obtain ⟨xs, ho, h1⟩ := HSd.out.hss.owns; exact h1 k hk)
            have HA1 := Lib.hid (HSd.out.hss.mono (ok' := fun j => S < j ∧ (if j < m then col j else 0) = 0) (fun k hk => ⟨hk.1, by rw [if_pos hk.2.1]; exact hk.2.2⟩))
            have HC1 : Hid (Rds w8.drew (fun j => m + 1 ≤ j) [.string n, .bool true, .slice A9 l.length c9, .int .i64 at_] (Str.d (⟨n, true, l, at_⟩ : Str))) := Lib.hid (by simp only [Str.d]; exact ⟨.v _, .v _, HLd.out, .v _, trivial⟩)
            refine start_ (n := 11) (S := fun w' => w'.cell? ⟨S, 0, none⟩ = some (.slice A1 s.ss.length c1) ∧ w'.cell? ⟨m, 0, none⟩ = some (.string n) ∧ w'.cell? ⟨m, 1, none⟩ = some (.bool true) ∧ w'.cell? ⟨m, 2, none⟩ = some (.slice A9 l.length c9) ∧ w'.cell? ⟨m, 3, none⟩ = some (.int .i64 at_)) (ds := [10]) #[false, false, false, false, false, false, false, false, false, false, false] (by kernel_rfl) rfl rfl ⟨blk_cell HSd.out.bx 0, blk_cell HYd.out 0, blk_cell HYd.out 1, blk_cell HYd.out 2, blk_cell HYd.out 3⟩ (fun hHeld => ?_)
            refine pure_ (i := 0) (N := some 61) (v := ?_) (a' := ?_) #[true, false, false, false, false, false, false, false, false, false, false] rfl rfl (by kernel_rfl) (fun _ _ _ h => h) (Or.inl ⟨by rfl, ?_⟩) ?_ ?_
            rotate_left
            · intro w'
              go_simp
              with_reducible rfl
            rotate_left
            · simp only [Act.put, List.setIfInBounds_toArray, List.set_cons_zero, List.set_cons_succ, i64_w, i32_w]
              rfl
            refine pure_ (i := 1) (N := some 62) (v := ?_) (a' := ?_) #[true, true, false, false, false, false, false, false, false, false, false] rfl rfl (by kernel_rfl) (fun _ _ _ h => h) (Or.inl ⟨by rfl, ?_⟩) ?_ ?_
            rotate_left
            · intro w'
              go_simp
              with_reducible rfl
            rotate_left
            · simp only [Act.put, List.setIfInBounds_toArray, List.set_cons_zero, List.set_cons_succ, i64_w, i32_w]
              rfl
            refine pure_ (i := 2) (N := some 63) (v := ?_) (a' := ?_) #[true, true, true, false, false, false, false, false, false, false, false] rfl rfl (by kernel_rfl) (fun _ _ _ h => h) (Or.inl ⟨by rfl, ?_⟩) ?_ ?_
            rotate_left
            · intro w'
              go_simp
              with_reducible rfl
            rotate_left
            · simp only [Act.put, List.setIfInBounds_toArray, List.set_cons_zero, List.set_cons_succ, i64_w, i32_w]
              rfl
            refine pure_ (i := 3) (N := some 64) (v := ?_) (a' := ?_) #[true, true, true, true, false, false, false, false, false, false, false] rfl rfl (by kernel_rfl) (fun _ _ _ h => h) (Or.inl ⟨by rfl, ?_⟩) ?_ ?_
            rotate_left
            · intro w'
              go_simp
              with_reducible rfl
            rotate_left
            · simp only [Act.put, List.setIfInBounds_toArray, List.set_cons_zero, List.set_cons_succ, i64_w, i32_w]
              rfl
            refine take_ (i := 4) (N := some 65) (v := ?_) (a' := ?_) #[true, true, true, true, true, false, false, false, false, false, false] rfl rfl (by kernel_rfl) (fun _ _ _ h => h) (Or.inl ⟨by rfl, ?_⟩) hHeld ?_ ?_
            rotate_left
            · rintro w' ⟨s0, s1, s2, s3, s4⟩
              go_simp
              with_reducible rfl
            rotate_left
            · simp only [Act.put, List.setIfInBounds_toArray, List.set_cons_zero, List.set_cons_succ, i64_w, i32_w]
              rfl
            refine take_ (i := 5) (N := some 66) (v := ?_) (a' := ?_) #[true, true, true, true, true, true, false, false, false, false, false] rfl rfl (by kernel_rfl) (fun _ _ _ h => h) (Or.inl ⟨by rfl, ?_⟩) hHeld ?_ ?_
            rotate_left
            · rintro w' ⟨s0, s1, s2, s3, s4⟩
              go_simp
              with_reducible rfl
            rotate_left
            · simp only [Act.put, List.setIfInBounds_toArray, List.set_cons_zero, List.set_cons_succ, i64_w, i32_w]
              rfl
            refine one_ (i := 6) (N := some 67) #[true, true, true, true, true, true, true, false, false, false, false] rfl rfl (by kernel_rfl) (by decide) (fun K hK => ?_)
            refine value_ (w1 := ?_) (v := ?_) (by rfl) rfl ?_ ?_
            rotate_left 2
            · go_simp
              constructor
              · rfl
              · rfl
            refine hK.out _ _ ⟨blk_cell (HSd.out.bx.alloc _) 0, blk_cell (HYd.out.alloc _) 0, blk_cell (HYd.out.alloc _) 1, blk_cell (HYd.out.alloc _) 2, blk_cell (HYd.out.alloc _) 3⟩ (fun hHeld => ?_)
            clear hK K
            refine norm_ (a' := ?_) ?_ ?_
            rotate_left
            · show Act.put _ (some 67) _ = _
              simp only [Act.put, List.setIfInBounds_toArray, List.set_cons_zero, List.set_cons_succ, i64_w, i32_w]
              rfl
            refine one_ (i := 7) (N := some 68) #[true, true, true, true, true, true, true, true, false, false, false] rfl rfl (by kernel_rfl) (by decide) (fun K hK => ?_)
            refine Rd.append_step (W := w8.drew) (ok := fun j => S < j ∧ (if j < m then col j else 0) = 0) (okp := fun j => m + 1 ≤ j) (cs := [.string n, .bool true, .slice A9 l.length c9, .int .i64 at_]) (ds := Str.d (⟨n, true, l, at_⟩ : Str)) (l := s.ss.map Str.d) (by rfl) (.tmp 65) (.tmp 67) 22 (.agg #[.string ⟨#[]⟩, .bool false, .slice none 0 0, .int .i64 0]) 56 rfl Tryz.underlying22 info_Struct rfl (by decide) (by decide) rfl rfl HA1.out HC1.out (by simp [Str.d]) (fun k hk => ⟨by omega, if_neg (by omega)⟩) (fun k hk => ⟨⟨by omega, if_neg (by omega)⟩, fun e => by have := HOB.out _ e; omega⟩) (by simp [Value.oneCell']) (by rw [List.length_map]; omega) ?_
            intro u5 w82 h5 hg5 hat5
            obtain ⟨A7, c7, rfl⟩ : ∃ A c, u5 = .slice A (s.ss.length + 1) c := (by obtain ⟨A, c, h⟩ := h5.slice; exact ⟨A, c, by rw [h]; simp⟩)
            have HG2 := Lib.hid (grown_own HGd.out hg5 (fun k hk => by have := HOB.out _ hk; omega))
            have HR2 := Lib.hid (HRd.out.grown hg5 (fun k hk => by have := HOB.out _ hk; omega))
            have HB2 : Hid (Bx 26 w82 S _) := Lib.hid ((hg5.block _ (blk_lt HSd.out.bx) (fun e => by have := HOB.out _ e.symm; omega)).trans HSd.out.bx)
            have HZ2 : Hid (Bx 115 w82 E _) := Lib.hid ((hg5.block _ (blk_lt HSd.out.be) (fun e => by have := HOB.out _ e.symm; have := HSd.out.hE; omega)).trans HSd.out.be)
            have HY2 : Hid (Bx 75 w82 m _) := Lib.hid ((hg5.block _ (blk_lt HYd.out) (fun e => by have := HOB.out _ e.symm; omega)).trans HYd.out)
            have Hes2 := Lib.hid (HSd.out.hes.grown hg5 (fun k hk e => by have h8 := (HOB.out _ e).2.2; have h9 := hk.2.2; omega))
            have Hfs2 := Lib.hid (HSd.out.hfs.grown hg5 (fun k hk e => by have h8 := (HOB.out _ e).2.2; have h9 := hk.2.2; omega))
            have HA2 := Lib.hid h5
            clear h5 hg5 hat5
            refine hK.out _ _ ⟨blk_cell HB2.out 0, blk_cell HY2.out 0, blk_cell HY2.out 1, blk_cell HY2.out 2, blk_cell HY2.out 3⟩ (fun hHeld => ?_)
            clear hK K
            refine norm_ (a' := ?_) ?_ ?_
            rotate_left
            · show Act.put _ (some 68) _ = _
              simp only [Act.put, List.setIfInBounds_toArray, List.set_cons_zero, List.set_cons_succ, i64_w, i32_w]
              rfl
            refine pure_ (i := 8) (N := some 69) (v := ?_) (a' := ?_) #[true, true, true, true, true, true, true, true, true, false, false] rfl rfl (by kernel_rfl) (fun _ _ _ h => h) (Or.inl ⟨by rfl, ?_⟩) ?_ ?_
            rotate_left
            · intro w'
              go_simp
              with_reducible rfl
            rotate_left
            · simp only [Act.put, List.setIfInBounds_toArray, List.set_cons_zero, List.set_cons_succ, i64_w, i32_w]
              rfl
            refine pure_ (i := 9) (N := some 70) (v := ?_) (a' := ?_) #[true, true, true, true, true, true, true, true, true, true, false] rfl rfl (by kernel_rfl) (fun _ _ _ h => h) (Or.inl ⟨by rfl, ?_⟩) ?_ ?_
            rotate_left
            · intro w'
              go_simp
              with_reducible rfl
            rotate_left
            · simp only [Act.put, List.setIfInBounds_toArray, List.set_cons_zero, List.set_cons_succ, i64_w, i32_w]
              rfl
            refine last_ (i := 10) (N := none) #[true, true, true, true, true, true, true, true, true, true, true] rfl rfl (by kernel_rfl) (by decide) (fun K hK => ?_)
            have hfz := blk_frozen HB2.out 0
            have hcz : w82.cell? ⟨S, 0, none⟩ = some (.slice A1 s.ss.length c1) := blk_cell HB2.out 0
            refine skip_ (w1 := ?_) (by rfl) rfl ?_ ?_
            rotate_left
            · go_simp
              rfl
            refine hK.out _ _ ?_
            clear hK K
            refine done_ (by kernel_rfl) ?_
            clear hHeld hfz hcz
            have HG3 := Lib.hid (grown_set HG2.out (p := ⟨S, 0, none⟩) (by simp only; omega) (.slice A7 (s.ss.length + 1) c7))
            have HR3 := Lib.hid (HR2.out.far (p := ⟨S, 0, none⟩) (by simp only; omega) (.slice A7 (s.ss.length + 1) c7))
            have HB3 : Hid (Bx 26 (w82.setCell ⟨S, 0, none⟩ (.slice A7 (s.ss.length + 1) c7)) S #[.slice A7 (s.ss.length + 1) c7, .slice A2 s.es.length c2, .slice A3 s.fs.length c3]) := Lib.hid (by have h := HB2.out.set 0 (.slice A7 (s.ss.length + 1) c7); simpa using h)
            have Hes3 := Lib.hid (Hes2.out.far (p := ⟨S, 0, none⟩) (fun k hk => by have := hk.1; simp only; omega) (.slice A7 (s.ss.length + 1) c7))
            have Hfs3 := Lib.hid (Hfs2.out.far (p := ⟨S, 0, none⟩) (fun k hk => by have := hk.1; simp only; omega) (.slice A7 (s.ss.length + 1) c7))
            have HA3 := Lib.hid (HA2.out.far (p := ⟨S, 0, none⟩) (fun k hk => by have := hk.1; simp only; omega) (.slice A7 (s.ss.length + 1) c7))
            have HZ3 := Lib.hid (HZ2.out.far (p := ⟨S, 0, none⟩) (by have := HSd.out.hE; simp only; omega) (.slice A7 (s.ss.length + 1) c7))
            have HHE := Lib.hid HSd.out.hE
            clear HZ2 HG HR HS HY HGd HRd HSd HYd HOB HA1 HC1 HG2 HR2 HB2 HY2 HA2 Hes2 Hfs2 HL HLd
            generalize (w82.setCell ⟨S, 0, none⟩ (.slice A7 (s.ss.length + 1) c7)) = w93 at *
            go_wp2_with fail
            go_end0
            exact .inr ⟨HG3.out, _, _, HPF.out, rfl, SrcAt.add_ss (A1 := A1) (A2 := A2) (A3 := A3) (c1 := c1) (c2 := c2) (c3 := c3) HB3.out HHE.out HZ3.out Hes3.out Hfs3.out HA3.out, HR3.out⟩
          · go_wp2_with fail
            exact ⟨rfl, .inl ⟨World.grownBy.trans HG.out hg, ⟨_, _, _, _, _, _, _, _, HS.out.kept hg hRS⟩, er, at9, (by rw [HIT.out]; exact Ps.bd_err (by rw [structP, Ps.bd_ok HP2.out, Ps.bd_ok HP3.out, Ps.bd_ok HP4.out]; exact Ps.bd_err hp)), rfl⟩⟩
        · go_wp2_with fail
          exact ⟨rfl, .inl ⟨World.grownBy.trans HG.out hg, ⟨_, _, _, _, _, _, _, _, HS.out.kept hg hRS⟩, er, at9, (by rw [HIT.out]; exact Ps.bd_err (by rw [structP, Ps.bd_ok HP2.out, Ps.bd_ok HP3.out]; exact Ps.bd_err hp)), rfl⟩⟩
      · go_wp2_with fail
        exact ⟨rfl, .inl ⟨World.grownBy.trans HG.out hg, ⟨_, _, _, _, _, _, _, _, HS.out.kept hg hRS⟩, er, at9, (by rw [HIT.out]; exact Ps.bd_err (by rw [structP, Ps.bd_ok HP2.out]; exact Ps.bd_err hp)), rfl⟩⟩
    · go_wp2_with fail
      exact ⟨rfl, .inl ⟨World.grownBy.trans HG.out hg, ⟨_, _, _, _, _, _, _, _, HS.out.kept hg hRS⟩, er, at9, (by rw [HIT.out]; exact Ps.bd_err (by rw [structP]; exact Ps.bd_err hp)), rfl⟩⟩
  · skip
    have HW1 := Lib.hid hw
    clear hw
    have HG_ := Lib.hid (World.grownBy.trans HG.out hg)
    have HR_ := Lib.hid hr
    have HS_ := Lib.hid (HS.out.kept hg (by omega))
    clear hg hr HG HR HS
    have HG := HG_
    have HR := HR_
    have HS := HS_
    clear HG_ HR_ HS_
    have HNW : Hid ((w2.alloc (.cells #[.string ⟨#[115, 116, 114, 117, 99, 116]⟩] 9)).cell? ⟨w2.heap.size, 0, none⟩ = some (.string ⟨#[115, 116, 114, 117, 99, 116]⟩)) := Lib.hid (blk_cell (heap_alloc_new w2 _) 0)
    have HRn := Lib.hid (HR.out.below (bel_one HR.out.lt (.cells #[.string ⟨#[115, 116, 114, 117, 99, 116]⟩] 9)) (by omega))
    have HBn := Lib.hid ((Below.refl w2.heap.size w2).alloc (Nat.le_refl _) (.cells #[.string ⟨#[115, 116, 114, 117, 99, 116]⟩] 9))
    go_wp2_with fail
    refine (is_rd HRn.out ⟨#[115, 116, 114, 117, 99, 116]⟩ HNW.out (by simp)).mono ?_
    rintro e w9 ⟨rfl, hb1⟩
    have hb := HBn.out.trans (hb1.mono (by simp))
    clear hb1 HNW HRn HBn
    have HG_ := Lib.hid (grown_then HG.out hb HG.out.size)
    have HR_ := Lib.hid (HR.out.below hb HR.out.lt)
    have HS_ := Lib.hid (HS.out.bel hb)
    clear hb HG HR HS
    have HG := HG_
    have HR := HR_
    have HS := HS_
    clear HG_ HR_ HS_
    cases hw2 : isW (⟨#[115, 116, 114, 117, 99, 116]⟩ : ByteArray) ts with
    | true =>
      have HIT : Hid (itemP s ts = ((structP false at_).bd fun x => .ret { s with ss := s.ss ++ [x] }) ts) := Lib.hid (by rw [item_struct HW1.out hw2, ← HAT.out])
      clear hw2 HW1
      go_wp2_with fail
      refine (must_rd HR.out ⟨#[115, 116, 114, 117, 99, 116]⟩).mono ?_
      rintro e w10 ⟨hg, ⟨⟨⟩, u1, v, hp, rfl, rfl, hr, hle⟩ | ⟨er, at9, hp, rfl⟩⟩
      · skip
        have HP6 := Lib.hid hp
        have HLE6 := Lib.hid hle
        clear hp hle
        have HG_ := Lib.hid (World.grownBy.trans HG.out hg)
        have HR_ := Lib.hid hr
        have HS_ := Lib.hid (HS.out.kept hg (by omega))
        clear hg hr HG HR HS
        have HG := HG_
        have HR := HR_
        have HS := HS_
        clear HG_ HR_ HS_
        go_wp2_with fail
        refine (name_rd HR.out true).mono ?_
        rintro e w11 ⟨hg, ⟨n, u2, v, hp, rfl, rfl, hr, hle⟩ | ⟨er, at9, hp, rfl⟩⟩
        · skip
          have HP7 := Lib.hid hp
          have HLE7 := Lib.hid hle
          clear hp hle
          have HG_ := Lib.hid (World.grownBy.trans HG.out hg)
          have HR_ := Lib.hid hr
          have HS_ := Lib.hid (HS.out.kept hg (by omega))
          clear hg hr HG HR HS
          have HG := HG_
          have HR := HR_
          have HS := HS_
          clear HG_ HR_ HS_
          have HS_ := Lib.hid HS.out.bound
          clear HS
          have HS := HS_
          clear HS_
          have hSm : S < w11.heap.size := blk_lt HS.out.bx
          have hlm : W.heap.size ≤ w11.heap.size := HG.out.size
          have HG_ := Lib.hid (grown_alloc HG.out (.cells #[.string n, .bool false, .slice none 0 0, .int .i64 at_] 75))
          have HR_ := Lib.hid (HR.out.below (bel_one HR.out.lt (.cells #[.string n, .bool false, .slice none 0 0, .int .i64 at_] 75)) (by omega))
          have HS_ := Lib.hid (HS.out.bel ((Below.refl _ _).alloc (Nat.le_refl _) (.cells #[.string n, .bool false, .slice none 0 0, .int .i64 at_] 75)))
          have HY_ : Hid (Bx 75 (w11.alloc (.cells #[.string n, .bool false, .slice none 0 0, .int .i64 at_] 75)) w11.heap.size #[.string n, .bool false, .slice none 0 0, .int .i64 at_]) := Lib.hid (.newAt rfl)
          clear HG HR HS
          have HG := HG_
          have HR := HR_
          have HS := HS_
          clear HG_ HR_ HS_
          have HY := HY_
          clear HY_
          go_wp2_with (first
            | (with_reducible refine wpList_store_row (o := ⟨none, .store 75 (.tmp 6) (.tmp 53), _, _, _, _⟩) rfl 75 _ _ rfl (w11.heap.size) #[.string n, .bool false, .slice none 0 0, .int .i64 at_] rfl rfl 75 #[.string ⟨#[]⟩, .bool false, .slice none 0 0, .int .i64 0] (heap_alloc_new w11 _) (by kernel_rfl) (by kernel_rfl) (by kernel_rfl) ?_
               rw [World.setRow_alloc_new]))
          generalize w11.alloc (.cells #[.string n, .bool false, .slice none 0 0, .int .i64 at_] 75) = w12 at *
          generalize w11.heap.size = m at *
          refine (must_rd HR.out ⟨#[123]⟩).mono ?_
          rintro e w13 ⟨hg, ⟨⟨⟩, u3, v, hp, rfl, rfl, hr, hle⟩ | ⟨er, at9, hp, rfl⟩⟩
          · skip
            have HP8 := Lib.hid hp
            have HLE8 := Lib.hid hle
            clear hp hle
            have HG_ := Lib.hid (World.grownBy.trans HG.out hg)
            have HR_ := Lib.hid hr
            have HY_ := Lib.hid (HY.out.kept hg (by omega))
            have HS_ := Lib.hid (HS.out.kept hg (by omega))
            clear hg hr HG HR HY HS
            have HG := HG_
            have HR := HR_
            have HY := HY_
            have HS := HS_
            clear HG_ HR_ HY_ HS_
            go_wp2_with fail
            refine (list_Field HR.out ⟨#[125]⟩).mono ?_
            rintro e w14 ⟨hg, ⟨l, u4, v, hp, rfl, hv, hr, hle⟩ | ⟨er, at9, hp, rfl⟩⟩
            · skip
              obtain ⟨A9, c9, rfl⟩ := hv.slice
              rw [List.length_map] at hv ⊢
              have hm3 := blk_lt HY.out
              have HL := Lib.hid (hv.low (m := m + 1) (by omega))
              clear hv hm3
              have HP9 := Lib.hid hp
              have HLE9 := Lib.hid hle
              clear hp hle
              have HG_ := Lib.hid (World.grownBy.trans HG.out hg)
              have HR_ := Lib.hid hr
              have HY_ := Lib.hid (HY.out.kept hg (by omega))
              have HS_ := Lib.hid (HS.out.kept hg (by omega))
              clear hg hr HG HR HY HS
              have HG := HG_
              have HR := HR_
              have HY := HY_
              have HS := HS_
              clear HG_ HR_ HY_ HS_
              obtain ⟨lHY, cHY, fHY⟩ := HY.out.see
              have HPUT := Lib.hid (Put.set (Put.refl m (m + 1) w14) (p := ⟨m, 2, none⟩) (by simp only; omega) (by simp only; omega) (.slice A9 l.length c9))
              have HG_ := Lib.hid (HPUT.out.grown HG.out (by omega))
              have HR_ := Lib.hid (HR.out.put HPUT.out (by omega))
              have HY_ : Hid (Bx 75 (w14.setCell ⟨m, 2, none⟩ (.slice A9 l.length c9)) m #[.string n, .bool false, .slice A9 l.length c9, .int .i64 at_]) := Lib.hid (by have h := HY.out.set 2 (.slice A9 l.length c9); simpa using h)
              have HS_ := Lib.hid (HS.out.put HPUT.out hSm (Nat.le_refl _))
              have HL_ := Lib.hid (HL.out.put HPUT.out (Nat.le_refl _))
              clear HPUT HG HR HY HS HL
              have HG := HG_
              have HR := HR_
              have HY := HY_
              have HS := HS_
              have HL := HL_
              clear HG_ HR_ HY_ HS_ HL_
              go_wp2_with fail
              clear lHY cHY fHY
              generalize (w14.setCell ⟨m, 2, none⟩ (.slice A9 l.length c9)) = w15 at *
              have HPF : Hid (itemP s ts = .ok ({ s with ss := s.ss ++ [(⟨n, false, l, at_⟩ : Str)] }, u4)) := Lib.hid (by rw [HIT.out, Ps.bd_ok (show _ = Except.ok ((⟨n, false, l, at_⟩ : Str), u4) from by rw [structP, Ps.bd_ok HP6.out, Ps.bd_ok HP7.out, Ps.bd_ok HP8.out, Ps.bd_ok HP9.out]; exact rfl)]; exact rfl)
              have HGd := Lib.hid (grown_then HG.out (bel_drew (Below.refl w15.heap.size w15)) HG.out.size)
              have HRd := Lib.hid (HR.out.below (bel_drew (Below.refl w15.heap.size w15)) HR.out.lt)
              have HSd := Lib.hid (HS.out.bel (bel_drew (Below.refl w15.heap.size w15)))
              have HYd := Lib.hid (HY.out.drew)
              have HLd := Lib.hid (HL.out.bel (bel_drew (Below.refl w15.heap.size w15)))
              have hm9 : m < w15.drew.heap.size := blk_lt HYd.out
              have HOB : Hid (∀ k, (Value.slice A1 s.ss.length c1).ownBlock = some k → S < k ∧ k < m ∧ col k = 0) := Lib.hid (fun k hk => by obtain ⟨xs, ho, h1⟩ := HSd.out.hss.owns; exact h1 k hk)
              have HA1 := Lib.hid (HSd.out.hss.mono (ok' := fun j => S < j ∧ (if j < m then col j else 0) = 0) (fun k hk => ⟨hk.1, by rw [if_pos hk.2.1]; exact hk.2.2⟩))
              have HC1 : Hid (Rds w15.drew (fun j => m + 1 ≤ j) [.string n, .bool false, .slice A9 l.length c9, .int .i64 at_] (Str.d (⟨n, false, l, at_⟩ : Str))) := Lib.hid (by simp only [Str.d]; exact ⟨.v _, .v _, HLd.out, .v _, trivial⟩)
              refine start_ (n := 11) (S := fun w' => w'.cell? ⟨S, 0, none⟩ = some (.slice A1 s.ss.length c1) ∧ w'.cell? ⟨m, 0, none⟩ = some (.string n) ∧ w'.cell? ⟨m, 1, none⟩ = some (.bool false) ∧ w'.cell? ⟨m, 2, none⟩ = some (.slice A9 l.length c9) ∧ w'.cell? ⟨m, 3, none⟩ = some (.int .i64 at_)) (ds := [10]) #[false, false, false, false, false, false, false, false, false, false, false] (by kernel_rfl) rfl rfl ⟨blk_cell HSd.out.bx 0, blk_cell HYd.out 0, blk_cell HYd.out 1, blk_cell HYd.out 2, blk_cell HYd.out 3⟩ (fun hHeld => ?_)
              refine pure_ (i := 0) (N := some 61) (v := ?_) (a' := ?_) #[true, false, false, false, false, false, false, false, false, false, false] rfl rfl (by kernel_rfl) (fun _ _ _ h => h) (Or.inl ⟨by rfl, ?_⟩) ?_ ?_
              rotate_left
              · intro w'
                go_simp
                with_reducible rfl
              rotate_left
              · simp only [Act.put, List.setIfInBounds_toArray, List.set_cons_zero, List.set_cons_succ, i64_w, i32_w]
                rfl
              refine pure_ (i := 1) (N := some 62) (v := ?_) (a' := ?_) #[true, true, false, false, false, false, false, false, false, false, false] rfl rfl (by kernel_rfl) (fun _ _ _ h => h) (Or.inl ⟨by rfl, ?_⟩) ?_ ?_
              rotate_left
              · intro w'
                go_simp
                with_reducible rfl
              rotate_left
              · simp only [Act.put, List.setIfInBounds_toArray, List.set_cons_zero, List.set_cons_succ, i64_w, i32_w]
                rfl
              refine pure_ (i := 2) (N := some 63) (v := ?_) (a' := ?_) #[true, true, true, false, false, false, false, false, false, false, false] rfl rfl (by kernel_rfl) (fun _ _ _ h => h) (Or.inl ⟨by rfl, ?_⟩) ?_ ?_
              rotate_left
              · intro w'
                go_simp
                with_reducible rfl
              rotate_left
              · simp only [Act.put, List.setIfInBounds_toArray, List.set_cons_zero, List.set_cons_succ, i64_w, i32_w]
                rfl
              refine pure_ (i := 3) (N := some 64) (v := ?_) (a' := ?_) #[true, true, true, true, false, false, false, false, false, false, false] rfl rfl (by kernel_rfl) (fun _ _ _ h => h) (Or.inl ⟨by rfl, ?_⟩) ?_ ?_
              rotate_left
              · intro w'
                go_simp
                with_reducible rfl
              rotate_left
              · simp only [Act.put, List.setIfInBounds_toArray, List.set_cons_zero, List.set_cons_succ, i64_w, i32_w]
                rfl
              refine take_ (i := 4) (N := some 65) (v := ?_) (a' := ?_) #[true, true, true, true, true, false, false, false, false, false, false] rfl rfl (by kernel_rfl) (fun _ _ _ h => h) (Or.inl ⟨by rfl, ?_⟩) hHeld ?_ ?_
              rotate_left
              · rintro w' ⟨s0, s1, s2, s3, s4⟩
                go_simp
                with_reducible rfl
              rotate_left
              · simp only [Act.put, List.setIfInBounds_toArray, List.set_cons_zero, List.set_cons_succ, i64_w, i32_w]
                rfl
              refine take_ (i := 5) (N := some 66) (v := ?_) (a' := ?_) #[true, true, true, true, true, true, false, false, false, false, false] rfl rfl (by kernel_rfl) (fun _ _ _ h => h) (Or.inl ⟨by rfl, ?_⟩) hHeld ?_ ?_
              rotate_left
              · rintro w' ⟨s0, s1, s2, s3, s4⟩
                go_simp
                with_reducible rfl
              rotate_left
              · simp only [Act.put, List.setIfInBounds_toArray, List.set_cons_zero, List.set_cons_succ, i64_w, i32_w]
                rfl
              refine one_ (i := 6) (N := some 67) #[true, true, true, true, true, true, true, false, false, false, false] rfl rfl (by kernel_rfl) (by decide) (fun K hK => ?_)
              refine value_ (w1 := ?_) (v := ?_) (by rfl) rfl ?_ ?_
              rotate_left 2
              · go_simp
                constructor
                · rfl
                · rfl
              refine hK.out _ _ ⟨blk_cell (HSd.out.bx.alloc _) 0, blk_cell (HYd.out.alloc _) 0, blk_cell (HYd.out.alloc _) 1, blk_cell (HYd.out.alloc _) 2, blk_cell (HYd.out.alloc _) 3⟩ (fun hHeld => ?_)
              clear hK K
              refine norm_ (a' := ?_) ?_ ?_
              rotate_left
              · show Act.put _ (some 67) _ = _
                simp only [Act.put, List.setIfInBounds_toArray, List.set_cons_zero, List.set_cons_succ, i64_w, i32_w]
                rfl
              refine one_ (i := 7) (N := some 68) #[true, true, true, true, true, true, true, true, false, false, false] rfl rfl (by kernel_rfl) (by decide) (fun K hK => ?_)
              refine Rd.append_step (W := w15.drew) (ok := fun j => S < j ∧ (if j < m then col j else 0) = 0) (okp := fun j => m + 1 ≤ j) (cs := [.string n, .bool false, .slice A9 l.length c9, .int .i64 at_]) (ds := Str.d (⟨n, false, l, at_⟩ : Str)) (l := s.ss.map Str.d) (by rfl) (.tmp 65) (.tmp 67) 22 (.agg #[.string ⟨#[]⟩, .bool false, .slice none 0 0, .int .i64 0]) 56 rfl Tryz.underlying22 info_Struct rfl (by decide) (by decide) rfl rfl HA1.out HC1.out (by simp [Str.d]) (fun k hk => ⟨by omega, if_neg (by omega)⟩) (fun k hk => ⟨⟨by omega, if_neg (by omega)⟩, fun e => by have := HOB.out _ e; omega⟩) (by simp [Value.oneCell']) (by rw [List.length_map]; omega) ?_
              intro u5 w82 h5 hg5 hat5
              obtain ⟨A7, c7, rfl⟩ : ∃ A c, u5 = .slice A (s.ss.length + 1) c := (by obtain ⟨A, c, h⟩ := h5.slice; exact ⟨A, c, by rw [h]; simp⟩)
              have HG2 := Lib.hid (grown_own HGd.out hg5 (fun k hk => by have := HOB.out _ hk; omega))
              have HR2 := Lib.hid (HRd.out.grown hg5 (fun k hk => by have := HOB.out _ hk; omega))
              have HB2 : Hid (Bx 26 w82 S _) := Lib.hid ((hg5.block _ (blk_lt HSd.out.bx) (fun e => by have := HOB.out _ e.symm; omega)).trans HSd.out.bx)
              have HZ2 : Hid (Bx 115 w82 E _) := Lib.hid ((hg5.block _ (blk_lt HSd.out.be) (fun e => by have := HOB.out _ e.symm; have := HSd.out.hE; omega)).trans HSd.out.be)
              have HY2 : Hid (Bx 75 w82 m _) := Lib.hid ((hg5.block _ (blk_lt HYd.out) (fun e => by have := HOB.out _ e.symm; omega)).trans HYd.out)
              have Hes2 := Lib.hid (HSd.out.hes.grown hg5 (fun k hk e => by have h8 := (HOB.out _ e).2.2; have h9 := hk.2.2; omega))
              have Hfs2 := Lib.hid (HSd.out.hfs.grown hg5 (fun k hk e => by have h8 := (HOB.out _ e).2.2; have h9 := hk.2.2; omega))
              have HA2 := Lib.hid h5
              clear h5 hg5 hat5
              refine hK.out _ _ ⟨blk_cell HB2.out 0, blk_cell HY2.out 0, blk_cell HY2.out 1, blk_cell HY2.out 2, blk_cell HY2.out 3⟩ (fun hHeld => ?_)
              clear hK K
              refine norm_ (a' := ?_) ?_ ?_
              rotate_left
              · show Act.put _ (some 68) _ = _
                simp only [Act.put, List.setIfInBounds_toArray, List.set_cons_zero, List.set_cons_succ, i64_w, i32_w]
                rfl
              refine pure_ (i := 8) (N := some 69) (v := ?_) (a' := ?_) #[true, true, true, true, true, true, true, true, true, false, false] rfl rfl (by kernel_rfl) (fun _ _ _ h => h) (Or.inl ⟨by rfl, ?_⟩) ?_ ?_
              rotate_left
              · intro w'
                go_simp
                with_reducible rfl
              rotate_left
              · simp only [Act.put, List.setIfInBounds_toArray, List.set_cons_zero, List.set_cons_succ, i64_w, i32_w]
                rfl
              refine pure_ (i := 9) (N := some 70) (v := ?_) (a' := ?_) #[true, true, true, true, true, true, true, true, true, true, false] rfl rfl (by kernel_rfl) (fun _ _ _ h => h) (Or.inl ⟨by rfl, ?_⟩) ?_ ?_
              rotate_left
              · intro w'
                go_simp
                with_reducible rfl
              rotate_left
              · simp only [Act.put, List.setIfInBounds_toArray, List.set_cons_zero, List.set_cons_succ, i64_w, i32_w]
                rfl
              refine last_ (i := 10) (N := none) #[true, true, true, true, true, true, true, true, true, true, true] rfl rfl (by kernel_rfl) (by decide) (fun K hK => ?_)
              have hfz := blk_frozen HB2.out 0
              have hcz : w82.cell? ⟨S, 0, none⟩ = some (.slice A1 s.ss.length c1) := blk_cell HB2.out 0
              refine skip_ (w1 := ?_) (by rfl) rfl ?_ ?_
              rotate_left
              · go_simp
                rfl
              refine hK.out _ _ ?_
              clear hK K
              refine done_ (by kernel_rfl) ?_
              clear hHeld hfz hcz
              have HG3 := Lib.hid (grown_set HG2.out (p := ⟨S, 0, none⟩) (by simp only; omega) (.slice A7 (s.ss.length + 1) c7))
              have HR3 := Lib.hid (HR2.out.far (p := ⟨S, 0, none⟩) (by simp only; omega) (.slice A7 (s.ss.length + 1) c7))
              have HB3 : Hid (Bx 26 (w82.setCell ⟨S, 0, none⟩ (.slice A7 (s.ss.length + 1) c7)) S #[.slice A7 (s.ss.length + 1) c7, .slice A2 s.es.length c2, .slice A3 s.fs.length c3]) := Lib.hid (by have h := HB2.out.set 0 (.slice A7 (s.ss.length + 1) c7); simpa using h)
              have Hes3 := Lib.hid (Hes2.out.far (p := ⟨S, 0, none⟩) (fun k hk => by have := hk.1; simp only; omega) (.slice A7 (s.ss.length + 1) c7))
              have Hfs3 := Lib.hid (Hfs2.out.far (p := ⟨S, 0, none⟩) (fun k hk => by have := hk.1; simp only; omega) (.slice A7 (s.ss.length + 1) c7))
              have HA3 := Lib.hid (HA2.out.far (p := ⟨S, 0, none⟩) (fun k hk => by have := hk.1; simp only; omega) (.slice A7 (s.ss.length + 1) c7))
              have HZ3 := Lib.hid (HZ2.out.far (p := ⟨S, 0, none⟩) (by have := HSd.out.hE; simp only; omega) (.slice A7 (s.ss.length + 1) c7))
              have HHE := Lib.hid HSd.out.hE
              clear HZ2 HG HR HS HY HGd HRd HSd HYd HOB HA1 HC1 HG2 HR2 HB2 HY2 HA2 Hes2 Hfs2 HL HLd
              generalize (w82.setCell ⟨S, 0, none⟩ (.slice A7 (s.ss.length + 1) c7)) = w93 at *
              go_wp2_with fail
              go_end0
              exact .inr ⟨HG3.out, _, _, HPF.out, rfl, SrcAt.add_ss (A1 := A1) (A2 := A2) (A3 := A3) (c1 := c1) (c2 := c2) (c3 := c3) HB3.out HHE.out HZ3.out Hes3.out Hfs3.out HA3.out, HR3.out⟩
            · go_wp2_with fail
              exact ⟨rfl, .inl ⟨World.grownBy.trans HG.out hg, ⟨_, _, _, _, _, _, _, _, HS.out.kept hg hRS⟩, er, at9, (by rw [HIT.out]; exact Ps.bd_err (by rw [structP, Ps.bd_ok HP6.out, Ps.bd_ok HP7.out, Ps.bd_ok HP8.out]; exact Ps.bd_err hp)), rfl⟩⟩
          · go_wp2_with fail
            exact ⟨rfl, .inl ⟨World.grownBy.trans HG.out hg, ⟨_, _, _, _, _, _, _, _, HS.out.kept hg hRS⟩, er, at9, (by rw [HIT.out]; exact Ps.bd_err (by rw [structP, Ps.bd_ok HP6.out, Ps.bd_ok HP7.out]; exact Ps.bd_err hp)), rfl⟩⟩
        · go_wp2_with fail
          exact ⟨rfl, .inl ⟨World.grownBy.trans HG.out hg, ⟨_, _, _, _, _, _, _, _, HS.out.kept hg hRS⟩, er, at9, (by rw [HIT.out]; exact Ps.bd_err (by rw [structP, Ps.bd_ok HP6.out]; exact Ps.bd_err hp)), rfl⟩⟩
      · go_wp2_with fail
        exact ⟨rfl, .inl ⟨World.grownBy.trans HG.out hg, ⟨_, _, _, _, _, _, _, _, HS.out.kept hg hRS⟩, er, at9, (by rw [HIT.out]; exact Ps.bd_err (by rw [structP]; exact Ps.bd_err hp)), rfl⟩⟩
    | false =>
      have HW2 := Lib.hid hw2
      clear hw2
      go_wp2_with fail
      refine (opt_rd HR.out ⟨#[101, 110, 117, 109]⟩).mono ?_
      rintro e w16 ⟨hg, ⟨hw, rfl, hr⟩ | ⟨hw, rfl, hr⟩⟩
      · skip
        have HIT : Hid (itemP s ts = ((enumP at_).bd fun x => .ret { s with es := s.es ++ [x] }) ts.tail) := Lib.hid (by rw [item_enum HW1.out HW2.out hw, ← HAT.out])
        clear hw HW1 HW2
        have HG_ := Lib.hid (World.grownBy.trans HG.out hg)
        have HR_ := Lib.hid hr
        have HS_ := Lib.hid (HS.out.kept hg (by omega))
        clear hg hr HG HR HS
        have HG := HG_
        have HR := HR_
        have HS := HS_
        clear HG_ HR_ HS_
        go_wp2_with fail
        refine (name_rd HR.out true).mono ?_
        rintro e w17 ⟨hg, ⟨n, u2, v, hp, rfl, rfl, hr, hle⟩ | ⟨er, at9, hp, rfl⟩⟩
        · skip
          have HP11 := Lib.hid hp
          have HLE11 := Lib.hid hle
          clear hp hle
          have HG_ := Lib.hid (World.grownBy.trans HG.out hg)
          have HR_ := Lib.hid hr
          have HS_ := Lib.hid (HS.out.kept hg (by omega))
          clear hg hr HG HR HS
          have HG := HG_
          have HR := HR_
          have HS := HS_
          clear HG_ HR_ HS_
          have HS_ := Lib.hid HS.out.bound
          clear HS
          have HS := HS_
          clear HS_
          have hSm : S < w17.heap.size := blk_lt HS.out.bx
          have hlm : W.heap.size ≤ w17.heap.size := HG.out.size
          have HG_ := Lib.hid (grown_alloc HG.out (.cells #[.string n, .slice none 0 0, .int .i64 at_] 85))
          have HR_ := Lib.hid (HR.out.below (bel_one HR.out.lt (.cells #[.string n, .slice none 0 0, .int .i64 at_] 85)) (by omega))
          have HS_ := Lib.hid (HS.out.bel ((Below.refl _ _).alloc (Nat.le_refl _) (.cells #[.string n, .slice none 0 0, .int .i64 at_] 85)))
          have HY_ : Hid (Bx 85 (w17.alloc (.cells #[.string n, .slice none 0 0, .int .i64 at_] 85)) w17.heap.size #[.string n, .slice none 0 0, .int .i64 at_]) := Lib.hid (.newAt rfl)
          clear HG HR HS
          have HG := HG_
          have HR := HR_
          have HS := HS_
          clear HG_ HR_ HS_
          have HY := HY_
          clear HY_
          go_wp2_with (first
            | (with_reducible refine wpList_store_row (o := ⟨none, .store 85 (.tmp 7) (.tmp 77), _, _, _, _⟩) rfl 85 _ _ rfl (w17.heap.size) #[.string n, .slice none 0 0, .int .i64 at_] rfl rfl 85 #[.string ⟨#[]⟩, .slice none 0 0, .int .i64 0] (heap_alloc_new w17 _) (by kernel_rfl) (by kernel_rfl) (by kernel_rfl) ?_
               rw [World.setRow_alloc_new]))
          generalize w17.alloc (.cells #[.string n, .slice none 0 0, .int .i64 at_] 85) = w18 at *
          generalize w17.heap.size = m at *
          refine (must_rd HR.out ⟨#[123]⟩).mono ?_
          rintro e w19 ⟨hg, ⟨⟨⟩, u3, v, hp, rfl, rfl, hr, hle⟩ | ⟨er, at9, hp, rfl⟩⟩
          · skip
            have HP12 := Lib.hid hp
            have HLE12 := Lib.hid hle
            clear hp hle
            have HG_ := Lib.hid (World.grownBy.trans HG.out hg)
            have HR_ := Lib.hid hr
            have HY_ := Lib.hid (HY.out.kept hg (by omega))
            have HS_ := Lib.hid (HS.out.kept hg (by omega))
            clear hg hr HG HR HY HS
            have HG := HG_
            have HR := HR_
            have HY := HY_
            have HS := HS_
            clear HG_ HR_ HY_ HS_
            go_wp2_with fail
            refine (list_Variant HR.out ⟨#[125]⟩).mono ?_
            rintro e w20 ⟨hg, ⟨l, u4, v, hp, rfl, hv, hr, hle⟩ | ⟨er, at9, hp, rfl⟩⟩
            · skip
              obtain ⟨A9, c9, rfl⟩ := hv.slice
              rw [List.length_map] at hv ⊢
              have hm3 := blk_lt HY.out
              have HL := Lib.hid (hv.low (m := m + 1) (by omega))
              clear hv hm3
              have HP13 := Lib.hid hp
              have HLE13 := Lib.hid hle
              clear hp hle
              have HG_ := Lib.hid (World.grownBy.trans HG.out hg)
              have HR_ := Lib.hid hr
              have HY_ := Lib.hid (HY.out.kept hg (by omega))
              have HS_ := Lib.hid (HS.out.kept hg (by omega))
              clear hg hr HG HR HY HS
              have HG := HG_
              have HR := HR_
              have HY := HY_
              have HS := HS_
              clear HG_ HR_ HY_ HS_
              obtain ⟨lHY, cHY, fHY⟩ := HY.out.see
              have HPUT := Lib.hid (Put.set (Put.refl m (m + 1) w20) (p := ⟨m, 1, none⟩) (by simp only; omega) (by simp only; omega) (.slice A9 l.length c9))
              have HG_ := Lib.hid (HPUT.out.grown HG.out (by omega))
              have HR_ := Lib.hid (HR.out.put HPUT.out (by omega))
              have HY_ : Hid (Bx 85 (w20.setCell ⟨m, 1, none⟩ (.slice A9 l.length c9)) m #[.string n, .slice A9 l.length c9, .int .i64 at_]) := Lib.hid (by have h := HY.out.set 1 (.slice A9 l.length c9); simpa using h)
              have HS_ := Lib.hid (HS.out.put HPUT.out hSm (Nat.le_refl _))
              have HL_ := Lib.hid (HL.out.put HPUT.out (Nat.le_refl _))
              clear HPUT HG HR HY HS HL
              have HG := HG_
              have HR := HR_
              have HY := HY_
              have HS := HS_
              have HL := HL_
              clear HG_ HR_ HY_ HS_ HL_
              go_wp2_with fail
              clear lHY cHY fHY
              generalize (w20.setCell ⟨m, 1, none⟩ (.slice A9 l.length c9)) = w21 at *
              have HPF : Hid (itemP s ts = .ok ({ s with es := s.es ++ [(⟨n, l, at_⟩ : Enm)] }, u4)) := Lib.hid (by rw [HIT.out, Ps.bd_ok (show _ = Except.ok ((⟨n, l, at_⟩ : Enm), u4) from by rw [enumP, Ps.bd_ok HP11.out, Ps.bd_ok HP12.out, Ps.bd_ok HP13.out]; exact rfl)]; exact rfl)
              have HGd := Lib.hid (grown_then HG.out (bel_drew (Below.refl w21.heap.size w21)) HG.out.size)
              have HRd := Lib.hid (HR.out.below (bel_drew (Below.refl w21.heap.size w21)) HR.out.lt)
              have HSd := Lib.hid (HS.out.bel (bel_drew (Below.refl w21.heap.size w21)))
              have HYd := Lib.hid (HY.out.drew)
              have HLd := Lib.hid (HL.out.bel (bel_drew (Below.refl w21.heap.size w21)))
              have hm9 : m < w21.drew.heap.size := blk_lt HYd.out
              have HOB : Hid (∀ k, (Value.slice A2 s.es.length c2).ownBlock = some k → S < k ∧ k < m ∧ col k = 1) := Lib.hid (fun k hk => by obtain ⟨xs, ho, h1⟩ := HSd.out.hes.owns; exact h1 k hk)
              have HA1 := Lib.hid (HSd.out.hes.mono (ok' := fun j => S < j ∧ (if j < m then col j else 1) = 1) (fun k hk => ⟨hk.1, by rw [if_pos hk.2.1]; exact hk.2.2⟩))
              have HC1 : Hid (Rds w21.drew (fun j => m + 1 ≤ j) [.string n, .slice A9 l.length c9, .int .i64 at_] (Enm.d (⟨n, l, at_⟩ : Enm))) := Lib.hid (by simp only [Enm.d]; exact ⟨.v _, HLd.out, .v _, trivial⟩)
              refine start_ (n := 11) (S := fun w' => w'.cell? ⟨S, 1, none⟩ = some (.slice A2 s.es.length c2) ∧ w'.cell? ⟨m, 0, none⟩ = some (.string n) ∧ w'.cell? ⟨m, 1, none⟩ = some (.slice A9 l.length c9) ∧ w'.cell? ⟨m, 2, none⟩ = some (.int .i64 at_)) (ds := [10]) #[false, false, false, false, false, false, false, false, false, false, false] (by kernel_rfl) rfl rfl ⟨blk_cell HSd.out.bx 1, blk_cell HYd.out 0, blk_cell HYd.out 1, blk_cell HYd.out 2⟩ (fun hHeld => ?_)
              refine pure_ (i := 0) (N := some 85) (v := ?_) (a' := ?_) #[true, false, false, false, false, false, false, false, false, false, false] rfl rfl (by kernel_rfl) (fun _ _ _ h => h) (Or.inl ⟨by rfl, ?_⟩) ?_ ?_
              rotate_left
              · intro w'
                go_simp
                with_reducible rfl
              rotate_left
              · simp only [Act.put, List.setIfInBounds_toArray, List.set_cons_zero, List.set_cons_succ, i64_w, i32_w]
                rfl
              refine pure_ (i := 1) (N := some 86) (v := ?_) (a' := ?_) #[true, true, false, false, false, false, false, false, false, false, false] rfl rfl (by kernel_rfl) (fun _ _ _ h => h) (Or.inl ⟨by rfl, ?_⟩) ?_ ?_
              rotate_left
              · intro w'
                go_simp
                with_reducible rfl
              rotate_left
              · simp only [Act.put, List.setIfInBounds_toArray, List.set_cons_zero, List.set_cons_succ, i64_w, i32_w]
                rfl
              refine pure_ (i := 2) (N := some 87) (v := ?_) (a' := ?_) #[true, true, true, false, false, false, false, false, false, false, false] rfl rfl (by kernel_rfl) (fun _ _ _ h => h) (Or.inl ⟨by rfl, ?_⟩) ?_ ?_
              rotate_left
              · intro w'
                go_simp
                with_reducible rfl
              rotate_left
              · simp only [Act.put, List.setIfInBounds_toArray, List.set_cons_zero, List.set_cons_succ, i64_w, i32_w]
                rfl
              refine pure_ (i := 3) (N := some 88) (v := ?_) (a' := ?_) #[true, true, true, true, false, false, false, false, false, false, false] rfl rfl (by kernel_rfl) (fun _ _ _ h => h) (Or.inl ⟨by rfl, ?_⟩) ?_ ?_
              rotate_left
              · intro w'
                go_simp
                with_reducible rfl
              rotate_left
              · simp only [Act.put, List.setIfInBounds_toArray, List.set_cons_zero, List.set_cons_succ, i64_w, i32_w]
                rfl
              refine take_ (i := 4) (N := some 89) (v := ?_) (a' := ?_) #[true, true, true, true, true, false, false, false, false, false, false] rfl rfl (by kernel_rfl) (fun _ _ _ h => h) (Or.inl ⟨by rfl, ?_⟩) hHeld ?_ ?_
              rotate_left
              · rintro w' ⟨s0, s1, s2, s3⟩
                go_simp
                with_reducible rfl
              rotate_left
              · simp only [Act.put, List.setIfInBounds_toArray, List.set_cons_zero, List.set_cons_succ, i64_w, i32_w]
                rfl
              refine take_ (i := 5) (N := some 90) (v := ?_) (a' := ?_) #[true, true, true, true, true, true, false, false, false, false, false] rfl rfl (by kernel_rfl) (fun _ _ _ h => h) (Or.inl ⟨by rfl, ?_⟩) hHeld ?_ ?_
              rotate_left
              · rintro w' ⟨s0, s1, s2, s3⟩
                go_simp
                with_reducible rfl
              rotate_left
              · simp only [Act.put, List.setIfInBounds_toArray, List.set_cons_zero, List.set_cons_succ, i64_w, i32_w]
                rfl
              refine one_ (i := 6) (N := some 91) #[true, true, true, true, true, true, true, false, false, false, false] rfl rfl (by kernel_rfl) (by decide) (fun K hK => ?_)
              refine value_ (w1 := ?_) (v := ?_) (by rfl) rfl ?_ ?_
              rotate_left 2
              · go_simp
                constructor
                · rfl
                · rfl
              refine hK.out _ _ ⟨blk_cell (HSd.out.bx.alloc _) 1, blk_cell (HYd.out.alloc _) 0, blk_cell (HYd.out.alloc _) 1, blk_cell (HYd.out.alloc _) 2⟩ (fun hHeld => ?_)
              clear hK K
              refine norm_ (a' := ?_) ?_ ?_
              rotate_left
              · show Act.put _ (some 91) _ = _
                simp only [Act.put, List.setIfInBounds_toArray, List.set_cons_zero, List.set_cons_succ, i64_w, i32_w]
                rfl
              refine one_ (i := 7) (N := some 92) #[true, true, true, true, true, true, true, true, false, false, false] rfl rfl (by kernel_rfl) (by decide) (fun K hK => ?_)
              refine Rd.append_step (W := w21.drew) (ok := fun j => S < j ∧ (if j < m then col j else 1) = 1) (okp := fun j => m + 1 ≤ j) (cs := [.string n, .slice A9 l.length c9, .int .i64 at_]) (ds := Enm.d (⟨n, l, at_⟩ : Enm)) (l := s.es.map Enm.d) (by rfl) (.tmp 89) (.tmp 91) 23 (.agg #[.string ⟨#[]⟩, .slice none 0 0, .int .i64 0]) 48 rfl Tryz.underlying23 info_Enum rfl (by decide) (by decide) rfl rfl HA1.out HC1.out (by simp [Enm.d]) (fun k hk => ⟨by omega, if_neg (by omega)⟩) (fun k hk => ⟨⟨by omega, if_neg (by omega)⟩, fun e => by have := HOB.out _ e; omega⟩) (by simp [Value.oneCell']) (by rw [List.length_map]; omega) ?_
              intro u5 w82 h5 hg5 hat5
              obtain ⟨A7, c7, rfl⟩ : ∃ A c, u5 = .slice A (s.es.length + 1) c := (by obtain ⟨A, c, h⟩ := h5.slice; exact ⟨A, c, by rw [h]; simp⟩)
              have HG2 := Lib.hid (grown_own HGd.out hg5 (fun k hk => by have := HOB.out _ hk; omega))
              have HR2 := Lib.hid (HRd.out.grown hg5 (fun k hk => by have := HOB.out _ hk; omega))
              have HB2 : Hid (Bx 26 w82 S _) := Lib.hid ((hg5.block _ (blk_lt HSd.out.bx) (fun e => by have := HOB.out _ e.symm; omega)).trans HSd.out.bx)
              have HZ2 : Hid (Bx 115 w82 E _) := Lib.hid ((hg5.block _ (blk_lt HSd.out.be) (fun e => by have := HOB.out _ e.symm; have := HSd.out.hE; omega)).trans HSd.out.be)
              have HY2 : Hid (Bx 85 w82 m _) := Lib.hid ((hg5.block _ (blk_lt HYd.out) (fun e => by have := HOB.out _ e.symm; omega)).trans HYd.out)
              have Hss2 := Lib.hid (HSd.out.hss.grown hg5 (fun k hk e => by have h8 := (HOB.out _ e).2.2; have h9 := hk.2.2; omega))
              have Hfs2 := Lib.hid (HSd.out.hfs.grown hg5 (fun k hk e => by have h8 := (HOB.out _ e).2.2; have h9 := hk.2.2; omega))
              have HA2 := Lib.hid h5
              clear h5 hg5 hat5
              refine hK.out _ _ ⟨blk_cell HB2.out 1, blk_cell HY2.out 0, blk_cell HY2.out 1, blk_cell HY2.out 2⟩ (fun hHeld => ?_)
              clear hK K
              refine norm_ (a' := ?_) ?_ ?_
              rotate_left
              · show Act.put _ (some 92) _ = _
                simp only [Act.put, List.setIfInBounds_toArray, List.set_cons_zero, List.set_cons_succ, i64_w, i32_w]
                rfl
              refine pure_ (i := 8) (N := some 93) (v := ?_) (a' := ?_) #[true, true, true, true, true, true, true, true, true, false, false] rfl rfl (by kernel_rfl) (fun _ _ _ h => h) (Or.inl ⟨by rfl, ?_⟩) ?_ ?_
              rotate_left
              · intro w'
                go_simp
                with_reducible rfl
              rotate_left
              · simp only [Act.put, List.setIfInBounds_toArray, List.set_cons_zero, List.set_cons_succ, i64_w, i32_w]
                rfl
              refine pure_ (i := 9) (N := some 94) (v := ?_) (a' := ?_) #[true, true, true, true, true, true, true, true, true, true, false] rfl rfl (by kernel_rfl) (fun _ _ _ h => h) (Or.inl ⟨by rfl, ?_⟩) ?_ ?_
              rotate_left
              · intro w'
                go_simp
                with_reducible rfl
              rotate_left
              · simp only [Act.put, List.setIfInBounds_toArray, List.set_cons_zero, List.set_cons_succ, i64_w, i32_w]
                rfl
              refine last_ (i := 10) (N := none) #[true, true, true, true, true, true, true, true, true, true, true] rfl rfl (by kernel_rfl) (by decide) (fun K hK => ?_)
              have hfz := blk_frozen HB2.out 1
              have hcz : w82.cell? ⟨S, 1, none⟩ = some (.slice A2 s.es.length c2) := blk_cell HB2.out 1
              refine skip_ (w1 := ?_) (by rfl) rfl ?_ ?_
              rotate_left
              · go_simp
                rfl
              refine hK.out _ _ ?_
              clear hK K
              refine done_ (by kernel_rfl) ?_
              clear hHeld hfz hcz
              have HG3 := Lib.hid (grown_set HG2.out (p := ⟨S, 1, none⟩) (by simp only; omega) (.slice A7 (s.es.length + 1) c7))
              have HR3 := Lib.hid (HR2.out.far (p := ⟨S, 1, none⟩) (by simp only; omega) (.slice A7 (s.es.length + 1) c7))
              have HB3 : Hid (Bx 26 (w82.setCell ⟨S, 1, none⟩ (.slice A7 (s.es.length + 1) c7)) S #[.slice A1 s.ss.length c1, .slice A7 (s.es.length + 1) c7, .slice A3 s.fs.length c3]) := Lib.hid (by have h := HB2.out.set 1 (.slice A7 (s.es.length + 1) c7); simpa using h)
              have Hss3 := Lib.hid (Hss2.out.far (p := ⟨S, 1, none⟩) (fun k hk => by have := hk.1; simp only; omega) (.slice A7 (s.es.length + 1) c7))
              have Hfs3 := Lib.hid (Hfs2.out.far (p := ⟨S, 1, none⟩) (fun k hk => by have := hk.1; simp only; omega) (.slice A7 (s.es.length + 1) c7))
              have HA3 := Lib.hid (HA2.out.far (p := ⟨S, 1, none⟩) (fun k hk => by have := hk.1; simp only; omega) (.slice A7 (s.es.length + 1) c7))
              have HZ3 := Lib.hid (HZ2.out.far (p := ⟨S, 1, none⟩) (by have := HSd.out.hE; simp only; omega) (.slice A7 (s.es.length + 1) c7))
              have HHE := Lib.hid HSd.out.hE
              clear HZ2 HG HR HS HY HGd HRd HSd HYd HOB HA1 HC1 HG2 HR2 HB2 HY2 HA2 Hss2 Hfs2 HL HLd
              generalize (w82.setCell ⟨S, 1, none⟩ (.slice A7 (s.es.length + 1) c7)) = w93 at *
              go_wp2_with fail
              go_end0
              exact .inr ⟨HG3.out, _, _, HPF.out, rfl, SrcAt.add_es (A1 := A1) (A2 := A2) (A3 := A3) (c1 := c1) (c2 := c2) (c3 := c3) HB3.out HHE.out HZ3.out Hss3.out Hfs3.out HA3.out, HR3.out⟩
            · go_wp2_with fail
              exact ⟨rfl, .inl ⟨World.grownBy.trans HG.out hg, ⟨_, _, _, _, _, _, _, _, HS.out.kept hg hRS⟩, er, at9, (by rw [HIT.out]; exact Ps.bd_err (by rw [enumP, Ps.bd_ok HP11.out, Ps.bd_ok HP12.out]; exact Ps.bd_err hp)), rfl⟩⟩
          · go_wp2_with fail
            exact ⟨rfl, .inl ⟨World.grownBy.trans HG.out hg, ⟨_, _, _, _, _, _, _, _, HS.out.kept hg hRS⟩, er, at9, (by rw [HIT.out]; exact Ps.bd_err (by rw [enumP, Ps.bd_ok HP11.out]; exact Ps.bd_err hp)), rfl⟩⟩
        · go_wp2_with fail
          exact ⟨rfl, .inl ⟨World.grownBy.trans HG.out hg, ⟨_, _, _, _, _, _, _, _, HS.out.kept hg hRS⟩, er, at9, (by rw [HIT.out]; exact Ps.bd_err (by rw [enumP]; exact Ps.bd_err hp)), rfl⟩⟩
      · skip
        have HIT : Hid (itemP s ts = ((fnP at_).bd fun x => .ret { s with fs := s.fs ++ [x] }) ts) := Lib.hid (by rw [item_fn HW1.out HW2.out hw, ← HAT.out])
        clear hw HW1 HW2
        have HG_ := Lib.hid (World.grownBy.trans HG.out hg)
        have HR_ := Lib.hid hr
        have HS_ := Lib.hid (HS.out.kept hg (by omega))
        clear hg hr HG HR HS
        have HG := HG_
        have HR := HR_
        have HS := HS_
        clear HG_ HR_ HS_
        go_wp2_with fail
        refine (must_rd HR.out ⟨#[99, 111]⟩).mono ?_
        rintro e w22 ⟨hg, ⟨⟨⟩, u1, v, hp, rfl, rfl, hr, hle⟩ | ⟨er, at9, hp, rfl⟩⟩
        · skip
          have HP14 := Lib.hid hp
          have HLE14 := Lib.hid hle
          clear hp hle
          have HG_ := Lib.hid (World.grownBy.trans HG.out hg)
          have HR_ := Lib.hid hr
          have HS_ := Lib.hid (HS.out.kept hg (by omega))
          clear hg hr HG HR HS
          have HG := HG_
          have HR := HR_
          have HS := HS_
          clear HG_ HR_ HS_
          go_wp2_with fail
          refine (name_rd HR.out false).mono ?_
          rintro e w23 ⟨hg, ⟨n, u2, v, hp, rfl, rfl, hr, hle⟩ | ⟨er, at9, hp, rfl⟩⟩
          · skip
            have HP15 := Lib.hid hp
            have HLE15 := Lib.hid hle
            clear hp hle
            have HG_ := Lib.hid (World.grownBy.trans HG.out hg)
            have HR_ := Lib.hid hr
            have HS_ := Lib.hid (HS.out.kept hg (by omega))
            clear hg hr HG HR HS
            have HG := HG_
            have HR := HR_
            have HS := HS_
            clear HG_ HR_ HS_
            have HS_ := Lib.hid HS.out.bound
            clear HS
            have HS := HS_
            clear HS_
            have hSm : S < w23.heap.size := blk_lt HS.out.bx
            have hlm : W.heap.size ≤ w23.heap.size := HG.out.size
            have HG_ := Lib.hid (grown_alloc HG.out (.cells #[.string n, .slice none 0 0, .slice none 0 0, .int .i64 at_] 50))
            have HR_ := Lib.hid (HR.out.below (bel_one HR.out.lt (.cells #[.string n, .slice none 0 0, .slice none 0 0, .int .i64 at_] 50)) (by omega))
            have HS_ := Lib.hid (HS.out.bel ((Below.refl _ _).alloc (Nat.le_refl _) (.cells #[.string n, .slice none 0 0, .slice none 0 0, .int .i64 at_] 50)))
            have HY_ : Hid (Bx 50 (w23.alloc (.cells #[.string n, .slice none 0 0, .slice none 0 0, .int .i64 at_] 50)) w23.heap.size #[.string n, .slice none 0 0, .slice none 0 0, .int .i64 at_]) := Lib.hid (.newAt rfl)
            clear HG HR HS
            have HG := HG_
            have HR := HR_
            have HS := HS_
            clear HG_ HR_ HS_
            have HY := HY_
            clear HY_
            go_wp2_with (first
              | (with_reducible refine wpList_store_row (o := ⟨none, .store 50 (.tmp 8) (.tmp 19), _, _, _, _⟩) rfl 50 _ _ rfl (w23.heap.size) #[.string n, .slice none 0 0, .slice none 0 0, .int .i64 at_] rfl rfl 50 #[.string ⟨#[]⟩, .slice none 0 0, .slice none 0 0, .int .i64 0] (heap_alloc_new w23 _) (by kernel_rfl) (by kernel_rfl) (by kernel_rfl) ?_
                 rw [World.setRow_alloc_new]))
            generalize w23.alloc (.cells #[.string n, .slice none 0 0, .slice none 0 0, .int .i64 at_] 50) = w24 at *
            generalize w23.heap.size = m at *
            refine (must_rd HR.out ⟨#[40]⟩).mono ?_
            rintro e w25 ⟨hg, ⟨⟨⟩, u3, v, hp, rfl, rfl, hr, hle⟩ | ⟨er, at9, hp, rfl⟩⟩
            · skip
              have HP16 := Lib.hid hp
              have HLE16 := Lib.hid hle
              clear hp hle
              have HG_ := Lib.hid (World.grownBy.trans HG.out hg)
              have HR_ := Lib.hid hr
              have HY_ := Lib.hid (HY.out.kept hg (by omega))
              have HS_ := Lib.hid (HS.out.kept hg (by omega))
              clear hg hr HG HR HY HS
              have HG := HG_
              have HR := HR_
              have HY := HY_
              have HS := HS_
              clear HG_ HR_ HY_ HS_
              go_wp2_with fail
              refine (list_Field HR.out ⟨#[41]⟩).mono ?_
              rintro e w26 ⟨hg, ⟨l, u4, v, hp, rfl, hv, hr, hle⟩ | ⟨er, at9, hp, rfl⟩⟩
              · skip
                obtain ⟨A9, c9, rfl⟩ := hv.slice
                rw [List.length_map] at hv ⊢
                have hm3 := blk_lt HY.out
                have HL := Lib.hid (hv.low (m := m + 1) (by omega))
                clear hv hm3
                have HP17 := Lib.hid hp
                have HLE17 := Lib.hid hle
                clear hp hle
                have HG_ := Lib.hid (World.grownBy.trans HG.out hg)
                have HR_ := Lib.hid hr
                have HY_ := Lib.hid (HY.out.kept hg (by omega))
                have HS_ := Lib.hid (HS.out.kept hg (by omega))
                clear hg hr HG HR HY HS
                have HG := HG_
                have HR := HR_
                have HY := HY_
                have HS := HS_
                clear HG_ HR_ HY_ HS_
                obtain ⟨lHY, cHY, fHY⟩ := HY.out.see
                have HPUT := Lib.hid (Put.set (Put.refl m (m + 1) w26) (p := ⟨m, 1, none⟩) (by simp only; omega) (by simp only; omega) (.slice A9 l.length c9))
                have HG_ := Lib.hid (HPUT.out.grown HG.out (by omega))
                have HR_ := Lib.hid (HR.out.put HPUT.out (by omega))
                have HY_ : Hid (Bx 50 (w26.setCell ⟨m, 1, none⟩ (.slice A9 l.length c9)) m #[.string n, .slice A9 l.length c9, .slice none 0 0, .int .i64 at_]) := Lib.hid (by have h := HY.out.set 1 (.slice A9 l.length c9); simpa using h)
                have HS_ := Lib.hid (HS.out.put HPUT.out hSm (Nat.le_refl _))
                have HL_ := Lib.hid (HL.out.put HPUT.out (Nat.le_refl _))
                clear HPUT HG HR HY HS HL
                have HG := HG_
                have HR := HR_
                have HY := HY_
                have HS := HS_
                have HL := HL_
                clear HG_ HR_ HY_ HS_ HL_
                go_wp2_with fail
                clear lHY cHY fHY
                generalize (w26.setCell ⟨m, 1, none⟩ (.slice A9 l.length c9)) = w27 at *
                refine (block_ok 60 1 (by omega) (by omega) _ _ _ HR.out).mono ?_
                rintro e w28 ⟨hg, ⟨bl, u5, v, hp, rfl, hv, hr, hle⟩ | ⟨er, at9, hp, rfl⟩⟩
                · skip
                  obtain ⟨A8, c8, rfl⟩ := hv.slice
                  rw [Stm.ds_length] at hv ⊢
                  have hm3 := blk_lt HY.out
                  have HM := Lib.hid (hv.low (m := m + 1) (by omega))
                  clear hv hm3
                  have HP18 := Lib.hid hp
                  have HLE18 := Lib.hid hle
                  clear hp hle
                  have HG_ := Lib.hid (World.grownBy.trans HG.out hg)
                  have HR_ := Lib.hid hr
                  have HY_ := Lib.hid (HY.out.kept hg (by omega))
                  have HS_ := Lib.hid (HS.out.kept hg (by omega))
                  have HL_ := Lib.hid (HL.out.kept hg (by omega))
                  clear hg hr HG HR HY HS HL
                  have HG := HG_
                  have HR := HR_
                  have HY := HY_
                  have HS := HS_
                  have HL := HL_
                  clear HG_ HR_ HY_ HS_ HL_
                  obtain ⟨lHY, cHY, fHY⟩ := HY.out.see
                  have HPUT := Lib.hid (Put.set (Put.refl m (m + 1) w28) (p := ⟨m, 2, none⟩) (by simp only; omega) (by simp only; omega) (.slice A8 bl.length c8))
                  have HG_ := Lib.hid (HPUT.out.grown HG.out (by omega))
                  have HR_ := Lib.hid (HR.out.put HPUT.out (by omega))
                  have HY_ : Hid (Bx 50 (w28.setCell ⟨m, 2, none⟩ (.slice A8 bl.length c8)) m #[.string n, .slice A9 l.length c9, .slice A8 bl.length c8, .int .i64 at_]) := Lib.hid (by have h := HY.out.set 2 (.slice A8 bl.length c8); simpa using h)
                  have HS_ := Lib.hid (HS.out.put HPUT.out hSm (Nat.le_refl _))
                  have HL_ := Lib.hid (HL.out.put HPUT.out (Nat.le_refl _))
                  have HM_ := Lib.hid (HM.out.put HPUT.out (Nat.le_refl _))
                  clear HPUT HG HR HY HS HL HM
                  have HG := HG_
                  have HR := HR_
                  have HY := HY_
                  have HS := HS_
                  have HL := HL_
                  have HM := HM_
                  clear HG_ HR_ HY_ HS_ HL_ HM_
                  go_wp2_with fail
                  clear lHY cHY fHY
                  generalize (w28.setCell ⟨m, 2, none⟩ (.slice A8 bl.length c8)) = w29 at *
                  have HPF : Hid (itemP s ts = .ok ({ s with fs := s.fs ++ [(⟨n, l, bl, at_⟩ : Fnc)] }, u5)) := Lib.hid (by rw [HIT.out, Ps.bd_ok (show _ = Except.ok ((⟨n, l, bl, at_⟩ : Fnc), u5) from by rw [fnP, Ps.bd_ok HP14.out, Ps.bd_ok HP15.out, Ps.bd_ok HP16.out, Ps.bd_ok HP17.out, Ps.bd_ok HP18.out]; exact rfl)]; exact rfl)
                  have HGd := Lib.hid (grown_then HG.out (bel_drew (Below.refl w29.heap.size w29)) HG.out.size)
                  have HRd := Lib.hid (HR.out.below (bel_drew (Below.refl w29.heap.size w29)) HR.out.lt)
                  have HSd := Lib.hid (HS.out.bel (bel_drew (Below.refl w29.heap.size w29)))
                  have HYd := Lib.hid (HY.out.drew)
                  have HLd := Lib.hid (HL.out.bel (bel_drew (Below.refl w29.heap.size w29)))
                  have HMd := Lib.hid (HM.out.bel (bel_drew (Below.refl w29.heap.size w29)))
                  have hm9 : m < w29.drew.heap.size := blk_lt HYd.out
                  have HOB : Hid (∀ k, (Value.slice A3 s.fs.length c3).ownBlock = some k → S < k ∧ k < m ∧ col k = 2) := Lib.hid (fun k hk => by obtain ⟨xs, ho, h1⟩ := HSd.out.hfs.owns; exact h1 k hk)
                  have HA1 := Lib.hid (HSd.out.hfs.mono (ok' := fun j => S < j ∧ (if j < m then col j else 2) = 2) (fun k hk => ⟨hk.1, by rw [if_pos hk.2.1]; exact hk.2.2⟩))
                  have HC1 : Hid (Rds w29.drew (fun j => m + 1 ≤ j) [.string n, .slice A9 l.length c9, .slice A8 bl.length c8, .int .i64 at_] (Fnc.d (⟨n, l, bl, at_⟩ : Fnc))) := Lib.hid (by simp only [Fnc.d]; exact ⟨.v _, HLd.out, HMd.out, .v _, trivial⟩)
                  refine start_ (n := 11) (S := fun w' => w'.cell? ⟨S, 2, none⟩ = some (.slice A3 s.fs.length c3) ∧ w'.cell? ⟨m, 0, none⟩ = some (.string n) ∧ w'.cell? ⟨m, 1, none⟩ = some (.slice A9 l.length c9) ∧ w'.cell? ⟨m, 2, none⟩ = some (.slice A8 bl.length c8) ∧ w'.cell? ⟨m, 3, none⟩ = some (.int .i64 at_)) (ds := [10]) #[false, false, false, false, false, false, false, false, false, false, false] (by kernel_rfl) rfl rfl ⟨blk_cell HSd.out.bx 2, blk_cell HYd.out 0, blk_cell HYd.out 1, blk_cell HYd.out 2, blk_cell HYd.out 3⟩ (fun hHeld => ?_)
                  refine pure_ (i := 0) (N := some 30) (v := ?_) (a' := ?_) #[true, false, false, false, false, false, false, false, false, false, false] rfl rfl (by kernel_rfl) (fun _ _ _ h => h) (Or.inl ⟨by rfl, ?_⟩) ?_ ?_
                  rotate_left
                  · intro w'
                    go_simp
                    with_reducible rfl
                  rotate_left
                  · simp only [Act.put, List.setIfInBounds_toArray, List.set_cons_zero, List.set_cons_succ, i64_w, i32_w]
                    rfl
                  refine pure_ (i := 1) (N := some 31) (v := ?_) (a' := ?_) #[true, true, false, false, false, false, false, false, false, false, false] rfl rfl (by kernel_rfl) (fun _ _ _ h => h) (Or.inl ⟨by rfl, ?_⟩) ?_ ?_
                  rotate_left
                  · intro w'
                    go_simp
                    with_reducible rfl
                  rotate_left
                  · simp only [Act.put, List.setIfInBounds_toArray, List.set_cons_zero, List.set_cons_succ, i64_w, i32_w]
                    rfl
                  refine pure_ (i := 2) (N := some 32) (v := ?_) (a' := ?_) #[true, true, true, false, false, false, false, false, false, false, false] rfl rfl (by kernel_rfl) (fun _ _ _ h => h) (Or.inl ⟨by rfl, ?_⟩) ?_ ?_
                  rotate_left
                  · intro w'
                    go_simp
                    with_reducible rfl
                  rotate_left
                  · simp only [Act.put, List.setIfInBounds_toArray, List.set_cons_zero, List.set_cons_succ, i64_w, i32_w]
                    rfl
                  refine pure_ (i := 3) (N := some 33) (v := ?_) (a' := ?_) #[true, true, true, true, false, false, false, false, false, false, false] rfl rfl (by kernel_rfl) (fun _ _ _ h => h) (Or.inl ⟨by rfl, ?_⟩) ?_ ?_
                  rotate_left
                  · intro w'
                    go_simp
                    with_reducible rfl
                  rotate_left
                  · simp only [Act.put, List.setIfInBounds_toArray, List.set_cons_zero, List.set_cons_succ, i64_w, i32_w]
                    rfl
                  refine take_ (i := 4) (N := some 34) (v := ?_) (a' := ?_) #[true, true, true, true, true, false, false, false, false, false, false] rfl rfl (by kernel_rfl) (fun _ _ _ h => h) (Or.inl ⟨by rfl, ?_⟩) hHeld ?_ ?_
                  rotate_left
                  · rintro w' ⟨s0, s1, s2, s3, s4⟩
                    go_simp
                    with_reducible rfl
                  rotate_left
                  · simp only [Act.put, List.setIfInBounds_toArray, List.set_cons_zero, List.set_cons_succ, i64_w, i32_w]
                    rfl
                  refine take_ (i := 5) (N := some 35) (v := ?_) (a' := ?_) #[true, true, true, true, true, true, false, false, false, false, false] rfl rfl (by kernel_rfl) (fun _ _ _ h => h) (Or.inl ⟨by rfl, ?_⟩) hHeld ?_ ?_
                  rotate_left
                  · rintro w' ⟨s0, s1, s2, s3, s4⟩
                    go_simp
                    with_reducible rfl
                  rotate_left
                  · simp only [Act.put, List.setIfInBounds_toArray, List.set_cons_zero, List.set_cons_succ, i64_w, i32_w]
                    rfl
                  refine one_ (i := 6) (N := some 36) #[true, true, true, true, true, true, true, false, false, false, false] rfl rfl (by kernel_rfl) (by decide) (fun K hK => ?_)
                  refine value_ (w1 := ?_) (v := ?_) (by rfl) rfl ?_ ?_
                  rotate_left 2
                  · go_simp
                    constructor
                    · rfl
                    · rfl
                  refine hK.out _ _ ⟨blk_cell (HSd.out.bx.alloc _) 2, blk_cell (HYd.out.alloc _) 0, blk_cell (HYd.out.alloc _) 1, blk_cell (HYd.out.alloc _) 2, blk_cell (HYd.out.alloc _) 3⟩ (fun hHeld => ?_)
                  clear hK K
                  refine norm_ (a' := ?_) ?_ ?_
                  rotate_left
                  · show Act.put _ (some 36) _ = _
                    simp only [Act.put, List.setIfInBounds_toArray, List.set_cons_zero, List.set_cons_succ, i64_w, i32_w]
                    rfl
                  refine one_ (i := 7) (N := some 37) #[true, true, true, true, true, true, true, true, false, false, false] rfl rfl (by kernel_rfl) (by decide) (fun K hK => ?_)
                  refine Rd.append_step (W := w29.drew) (ok := fun j => S < j ∧ (if j < m then col j else 2) = 2) (okp := fun j => m + 1 ≤ j) (cs := [.string n, .slice A9 l.length c9, .slice A8 bl.length c8, .int .i64 at_]) (ds := Fnc.d (⟨n, l, bl, at_⟩ : Fnc)) (l := s.fs.map Fnc.d) (by rfl) (.tmp 34) (.tmp 36) 24 (.agg #[.string ⟨#[]⟩, .slice none 0 0, .slice none 0 0, .int .i64 0]) 72 rfl Tryz.underlying24 info_Fn rfl (by decide) (by decide) rfl rfl HA1.out HC1.out (by simp [Fnc.d]) (fun k hk => ⟨by omega, if_neg (by omega)⟩) (fun k hk => ⟨⟨by omega, if_neg (by omega)⟩, fun e => by have := HOB.out _ e; omega⟩) (by simp [Value.oneCell']) (by rw [List.length_map]; omega) ?_
                  intro u5 w82 h5 hg5 hat5
                  obtain ⟨A7, c7, rfl⟩ : ∃ A c, u5 = .slice A (s.fs.length + 1) c := (by obtain ⟨A, c, h⟩ := h5.slice; exact ⟨A, c, by rw [h]; simp⟩)
                  have HG2 := Lib.hid (grown_own HGd.out hg5 (fun k hk => by have := HOB.out _ hk; omega))
                  have HR2 := Lib.hid (HRd.out.grown hg5 (fun k hk => by have := HOB.out _ hk; omega))
                  have HB2 : Hid (Bx 26 w82 S _) := Lib.hid ((hg5.block _ (blk_lt HSd.out.bx) (fun e => by have := HOB.out _ e.symm; omega)).trans HSd.out.bx)
                  have HZ2 : Hid (Bx 115 w82 E _) := Lib.hid ((hg5.block _ (blk_lt HSd.out.be) (fun e => by have := HOB.out _ e.symm; have := HSd.out.hE; omega)).trans HSd.out.be)
                  have HY2 : Hid (Bx 50 w82 m _) := Lib.hid ((hg5.block _ (blk_lt HYd.out) (fun e => by have := HOB.out _ e.symm; omega)).trans HYd.out)
                  have Hss2 := Lib.hid (HSd.out.hss.grown hg5 (fun k hk e => by have h8 := (HOB.out _ e).2.2; have h9 := hk.2.2; omega))
                  have Hes2 := Lib.hid (HSd.out.hes.grown hg5 (fun k hk e => by have h8 := (HOB.out _ e).2.2; have h9 := hk.2.2; omega))
                  have HA2 := Lib.hid h5
                  clear h5 hg5 hat5
                  refine hK.out _ _ ⟨blk_cell HB2.out 2, blk_cell HY2.out 0, blk_cell HY2.out 1, blk_cell HY2.out 2, blk_cell HY2.out 3⟩ (fun hHeld => ?_)
                  clear hK K
                  refine norm_ (a' := ?_) ?_ ?_
                  rotate_left
                  · show Act.put _ (some 37) _ = _
                    simp only [Act.put, List.setIfInBounds_toArray, List.set_cons_zero, List.set_cons_succ, i64_w, i32_w]
                    rfl
                  refine pure_ (i := 8) (N := some 38) (v := ?_) (a' := ?_) #[true, true, true, true, true, true, true, true, true, false, false] rfl rfl (by kernel_rfl) (fun _ _ _ h => h) (Or.inl ⟨by rfl, ?_⟩) ?_ ?_
                  rotate_left
                  · intro w'
                    go_simp
                    with_reducible rfl
                  rotate_left
                  · simp only [Act.put, List.setIfInBounds_toArray, List.set_cons_zero, List.set_cons_succ, i64_w, i32_w]
                    rfl
                  refine pure_ (i := 9) (N := some 39) (v := ?_) (a' := ?_) #[true, true, true, true, true, true, true, true, true, true, false] rfl rfl (by kernel_rfl) (fun _ _ _ h => h) (Or.inl ⟨by rfl, ?_⟩) ?_ ?_
                  rotate_left
                  · intro w'
                    go_simp
                    with_reducible rfl
                  rotate_left
                  · simp only [Act.put, List.setIfInBounds_toArray, List.set_cons_zero, List.set_cons_succ, i64_w, i32_w]
                    rfl
                  refine last_ (i := 10) (N := none) #[true, true, true, true, true, true, true, true, true, true, true] rfl rfl (by kernel_rfl) (by decide) (fun K hK => ?_)
                  have hfz := blk_frozen HB2.out 2
                  have hcz : w82.cell? ⟨S, 2, none⟩ = some (.slice A3 s.fs.length c3) := blk_cell HB2.out 2
                  refine skip_ (w1 := ?_) (by rfl) rfl ?_ ?_
                  rotate_left
                  · go_simp
                    rfl
                  refine hK.out _ _ ?_
                  clear hK K
                  refine done_ (by kernel_rfl) ?_
                  clear hHeld hfz hcz
                  have HG3 := Lib.hid (grown_set HG2.out (p := ⟨S, 2, none⟩) (by simp only; omega) (.slice A7 (s.fs.length + 1) c7))
                  have HR3 := Lib.hid (HR2.out.far (p := ⟨S, 2, none⟩) (by simp only; omega) (.slice A7 (s.fs.length + 1) c7))
                  have HB3 : Hid (Bx 26 (w82.setCell ⟨S, 2, none⟩ (.slice A7 (s.fs.length + 1) c7)) S #[.slice A1 s.ss.length c1, .slice A2 s.es.length c2, .slice A7 (s.fs.length + 1) c7]) := Lib.hid (by have h := HB2.out.set 2 (.slice A7 (s.fs.length + 1) c7); simpa using h)
                  have Hss3 := Lib.hid (Hss2.out.far (p := ⟨S, 2, none⟩) (fun k hk => by have := hk.1; simp only; omega) (.slice A7 (s.fs.length + 1) c7))
                  have Hes3 := Lib.hid (Hes2.out.far (p := ⟨S, 2, none⟩) (fun k hk => by have := hk.1; simp only; omega) (.slice A7 (s.fs.length + 1) c7))
                  have HA3 := Lib.hid (HA2.out.far (p := ⟨S, 2, none⟩) (fun k hk => by have := hk.1; simp only; omega) (.slice A7 (s.fs.length + 1) c7))
                  have HZ3 := Lib.hid (HZ2.out.far (p := ⟨S, 2, none⟩) (by have := HSd.out.hE; simp only; omega) (.slice A7 (s.fs.length + 1) c7))
                  have HHE := Lib.hid HSd.out.hE
                  clear HZ2 HG HR HS HY HGd HRd HSd HYd HOB HA1 HC1 HG2 HR2 HB2 HY2 HA2 Hss2 Hes2 HL HM HLd HMd
                  generalize (w82.setCell ⟨S, 2, none⟩ (.slice A7 (s.fs.length + 1) c7)) = w93 at *
                  go_wp2_with fail
                  go_end0
                  exact .inr ⟨HG3.out, _, _, HPF.out, rfl, SrcAt.add_fs (A1 := A1) (A2 := A2) (A3 := A3) (c1 := c1) (c2 := c2) (c3 := c3) HB3.out HHE.out HZ3.out Hss3.out Hes3.out HA3.out, HR3.out⟩
                · go_wp2_with fail
                  exact ⟨rfl, .inl ⟨World.grownBy.trans HG.out hg, ⟨_, _, _, _, _, _, _, _, HS.out.kept hg hRS⟩, er, at9, (by rw [HIT.out]; exact Ps.bd_err (by rw [fnP, Ps.bd_ok HP14.out, Ps.bd_ok HP15.out, Ps.bd_ok HP16.out, Ps.bd_ok HP17.out]; exact Ps.bd_err hp)), rfl⟩⟩
              · go_wp2_with fail
                exact ⟨rfl, .inl ⟨World.grownBy.trans HG.out hg, ⟨_, _, _, _, _, _, _, _, HS.out.kept hg hRS⟩, er, at9, (by rw [HIT.out]; exact Ps.bd_err (by rw [fnP, Ps.bd_ok HP14.out, Ps.bd_ok HP15.out, Ps.bd_ok HP16.out]; exact Ps.bd_err hp)), rfl⟩⟩
            · go_wp2_with fail
              exact ⟨rfl, .inl ⟨World.grownBy.trans HG.out hg, ⟨_, _, _, _, _, _, _, _, HS.out.kept hg hRS⟩, er, at9, (by rw [HIT.out]; exact Ps.bd_err (by rw [fnP, Ps.bd_ok HP14.out, Ps.bd_ok HP15.out]; exact Ps.bd_err hp)), rfl⟩⟩
          · go_wp2_with fail
            exact ⟨rfl, .inl ⟨World.grownBy.trans HG.out hg, ⟨_, _, _, _, _, _, _, _, HS.out.kept hg hRS⟩, er, at9, (by rw [HIT.out]; exact Ps.bd_err (by rw [fnP, Ps.bd_ok HP14.out]; exact Ps.bd_err hp)), rfl⟩⟩
        · go_wp2_with fail
          exact ⟨rfl, .inl ⟨World.grownBy.trans HG.out hg, ⟨_, _, _, _, _, _, _, _, HS.out.kept hg hRS⟩, er, at9, (by rw [HIT.out]; exact Ps.bd_err (by rw [fnP]; exact Ps.bd_err hp)), rfl⟩⟩
end Go.Proofs.YtjoiflokekebkaaGreatDoor
end

section
/- Walks: what a panic is made into, and the reader's round. -/
namespace Go.Proofs.YtjoiflokekebkaaGreatDoor
open Go.RowKit Go.Proofs.YtjoiflokekebkaaGreatDoorW.PrintLast

theorem Bx.cast {t : TypeId} {w : World} {x : Nat} {cs cs' : Array Value} (h : Bx t w x cs) (e : cs = cs') : Bx t w x cs' := e ▸ h
theorem ta_wrong (a b : Value) (w : World) : (Instr.typeAssert (.iface 115 (.agg #[a, b])) 20 115 false).run Tryz.prog w = .ok (.agg #[a, b]) w := by kernel_rfl
set_option maxRecDepth 100000 in
set_option maxHeartbeats 4000000 in
theorem catch_idle {S E : Nat} (w : World) : CallsD Tryz.prog 101 #[.pointer (some ⟨S, 0, none⟩), .pointer (some ⟨E, 0, none⟩)] .returning w fun e u' w' => e = .returned (.tuple #[]) ∧ u' = .returning ∧ w' = w := by
  refine callsD_of_wpS Tryz.func101 rfl fun c₀ cs hu => ?_
  apply wpS_seq
  apply wpS_region
  simp [wpOpsS, go_sem, recoverD, hu, Tryz.ntmps101, Exit.thenS]
  apply wpS_seq
  apply wpS_region
  simp [wpOpsS, go_sem, recoverD, hu, Exit.thenS]
  refine wpS_cond (t := false) (by simp [Act.eval, Array.replicate]) ?_
  simp only [Bool.false_eq_true, if_false]
  refine wpS_of_wp (wp_skip ?_)
  cases c₀
  simp_all [bodyPostS, results, Tryz.results101]
set_option maxRecDepth 100000 in
set_option maxHeartbeats 4000000 in
theorem catch_panicking {S E B : Nat} (er at_ : Int) {v1 v2 v3 e1 e2 : Value} (w : World) (hS : Bx 26 w S #[v1, v2, v3]) (hE : Bx 115 w E #[e1, e2]) (hne : S ≠ E) (hBS : B ≤ S) (hBE : B ≤ E) (older : List PanicEntry) :
    CallsD Tryz.prog 101 #[.pointer (some ⟨S, 0, none⟩), .pointer (some ⟨E, 0, none⟩)] (.panicking ({ v := .iface 115 (.agg #[.int .i64 er, .int .i64 at_]), recovered := false } :: older)) w fun e u' w' =>
      e = .returned (.tuple #[]) ∧ u' = .panicking ({ v := .iface 115 (.agg #[.int .i64 er, .int .i64 at_]), recovered := true } :: older) ∧ Below B w w' ∧ Bx 26 w' S #[.slice none 0 0, .slice none 0 0, .slice none 0 0] ∧ Bx 115 w' E #[.int .i64 er, .int .i64 at_] := by
  have hta := ta_wrong
  obtain ⟨lS, cS, fS⟩ := hS.see
  obtain ⟨lE, cE, fE⟩ := hE.see
  have h01 : (S = E) = False := eq_false hne
  have h10 : (E = S) = False := eq_false (Ne.symm hne)
  refine callsD_of_wpS Tryz.func101 rfl fun c₀ cs hu => ?_
  apply wpS_seq
  apply wpS_region
  simp [wpOpsS, go_sem, recoverD, hu, Tryz.ntmps101, Exit.thenS]
  apply wpS_seq
  apply wpS_region
  simp [wpOpsS, go_sem, recoverD, hu, Exit.thenS]
  refine wpS_cond (t := true) (by simp [Act.eval, Array.replicate]) ?_
  simp only [if_true]
  refine wpS_of_wp ?_
  go_region
  all_goals
    refine ⟨rfl, _, rfl, .tuple #[], by simp [results, Tryz.results101], rfl, rfl, ?_, ?_, ?_⟩
    · repeat (first | with_reducible exact Below.refl _ _ | with_reducible refine bel_drew ?_ | with_reducible refine bel_set ?_ (by first | exact hBS | exact hBE) _)
    · have h := (((((hS.set 0 (.slice none 0 0)).set 1 (.slice none 0 0)).set 2 (.slice none 0 0)).far (p := ⟨E, 0, none⟩) hne (.int .i64 er)).far (p := ⟨E, 1, none⟩) hne (.int .i64 at_)).drew
      exact h.cast (by simp)
    · have h := (((((hE.far (p := ⟨S, 0, none⟩) (Ne.symm hne) (.slice none 0 0)).far (p := ⟨S, 1, none⟩) (Ne.symm hne) (.slice none 0 0)).far (p := ⟨S, 2, none⟩) (Ne.symm hne) (.slice none 0 0)).set 0 (.int .i64 er)).set 1 (.int .i64 at_)).drew
      exact h.cast (by simp)
end Go.Proofs.YtjoiflokekebkaaGreatDoor
end

section
/- Walks: the reader of a source (it recovers). -/
namespace Go.Proofs.YtjoiflokekebkaaGreatDoor
open Go.RowKit Go.Proofs.YtjoiflokekebkaaGreatDoorW.PrintLast

theorem items_s {n : Nat} {s : Src} {ts : List Tk} (hk : (hd ts).k = 0) : itemsP (n + 1) s ts = .ok (s, ts) := by rw [itemsP]; simp [hk]
theorem items_t {n : Nat} {s s' : Src} {ts us : List Tk} (hk : ¬ (hd ts).k = 0) (hx : itemP s ts = .ok (s', us)) : itemsP (n + 1) s ts = itemsP n s' us := by rw [itemsP]; simp only [hk, if_false]; exact Ps.bd_ok hx
theorem items_e {n : Nat} {s : Src} {ts : List Tk} {e : Int × Int} (hk : ¬ (hd ts).k = 0) (hx : itemP s ts = .error e) : itemsP (n + 1) s ts = .error e := by rw [itemsP]; simp only [hk, if_false]; exact Ps.bd_err hx
theorem tok_k (a b c d : Value) (w : World) : (Instr.field 73 (.agg #[a, b, c, d]) 0).run Tryz.prog w = .ok a w := by kernel_rfl
/-- What the reader of a source does. -/
def Reads (W : World) (R : Nat) (ts : List Tk) (e : Ending) (w' : World) : Prop :=
  W.grownBy w' (some R) ∧ ((∃ s us cs, itemsP (ts.length + 1) .zero ts = .ok (s, us) ∧ e = .returned (.tuple #[.agg (List.toArray cs), .agg #[.int .i64 0, .int .i64 0]]) ∧ Rds w' (fun j => W.heap.size ≤ j) cs (Src.d s)) ∨
    (∃ er at2, itemsP (ts.length + 1) .zero ts = .error (er, at2) ∧ e = .returned (.tuple #[.agg #[.slice none 0 0, .slice none 0 0, .slice none 0 0], .agg #[.int .i64 er, .int .i64 at2]])))
theorem src_start (W : World) : SrcAt W.heap.size (W.heap.size + 1) ((W.alloc (.cells #[.slice none 0 0, .slice none 0 0, .slice none 0 0] 26)).alloc (.cells #[.int .i64 0, .int .i64 0] 115)) .zero :=
  ⟨W.heap.size + 2, fun _ => 3, none, 0, none, 0, none, 0, (Bx.newAt rfl).alloc _, ⟨by omega, by omega, rfl⟩, .newAt (by simp), Rd.nil _ _ _ _, Rd.nil _ _ _ _, Rd.nil _ _ _ _⟩
set_option maxRecDepth 100000 in
set_option maxHeartbeats 8000000 in
theorem read_rd {W : World} {R : Nat} {ts : List Tk} (h : Rdr W R ts) : Calls Tryz.prog 52 #[.pointer (some ⟨R, 0, none⟩)] W fun e w' => Reads W R ts e w' := by
  have hR := h.lt
  have hlen := h.ok.len
  have hmf := mf
  have hf := tok_k
  have HS := Lib.hid (src_start W)
  have HR := Lib.hid (h.below (((Below.refl (R + 1) W).alloc (by omega) (.cells #[.slice none 0 0, .slice none 0 0, .slice none 0 0] 26)).alloc (by simp; omega) (.cells #[.int .i64 0, .int .i64 0] 115)) (by omega))
  have HG := Lib.hid (grown_alloc (grown_alloc (World.grownBy.refl W (some R)) (.cells #[.slice none 0 0, .slice none 0 0, .slice none 0 0] 26)) (.cells #[.int .i64 0, .int .i64 0] 115))
  clear h
  go_enter_defers Tryz.func52, Tryz.ntmps52
  go_wp2_with fail
  generalize (W.alloc (.cells #[.slice none 0 0, .slice none 0 0, .slice none 0 0] 26)).alloc (.cells #[.int .i64 0, .int .i64 0] 115) = w1 at *
  have hP : itemsP (ts.length + 1) .zero ts = itemsP (ts.length + 1) .zero ts := rfl
  have HP := Lib.hid hP
  clear hP
  go_loopg [] (ts.length + 1) (fun gk wr => ∃ (us : List Tk) (s : Src) (n : Nat), us.length < gk ∧ us.length < n ∧ s.ss.length + s.es.length + s.fs.length + us.length ≤ ts.length ∧ Hid (Rdr wr R us) ∧ Hid (W.grownBy wr (some R)) ∧ Hid (SrcAt W.heap.size (W.heap.size + 1) wr s) ∧ Hid (itemsP (ts.length + 1) .zero ts = itemsP n s us))
  case atStart => exact ⟨ts, .zero, ts.length + 1, by omega, by omega, by simp [Src.zero], HR, HG, HS, HP⟩
  case round =>
    clear HR HG HS HP
    obtain ⟨us, s, n, hgk, hn, hcount, HR, HG, HS, HP⟩ := hrel
    obtain ⟨n, rfl⟩ : ∃ m, n = m + 1 := ⟨n - 1, by omega⟩
    go_wp2_with fail
    refine (next_rd HR.out).mono ?_
    rintro e w2 ⟨rfl, hb⟩
    have HR2 := Lib.hid (HR.out.below hb HR.out.lt)
    have HG2 := Lib.hid (grown_then HG.out hb HG.out.size)
    have HS2 := Lib.hid (HS.out.bel hb)
    clear hb HR HG HS
    by_cases hk : (hd us).k = 0
    · obtain ⟨N, col, A1, c1, A2, c2, A3, c3, hs⟩ := HS2.out
      have HQ := Lib.hid hs
      have HPF : Hid (itemsP (ts.length + 1) .zero ts = .ok (s, us)) := Lib.hid (by rw [HP.out]; exact items_s hk)
      have hb4 : Below W.heap.size w2 (((((w2.setCell ⟨W.heap.size, 0, none⟩ (.slice A1 s.ss.length c1)).setCell ⟨W.heap.size, 1, none⟩ (.slice A2 s.es.length c2)).setCell ⟨W.heap.size, 2, none⟩ (.slice A3 s.fs.length c3)).setCell ⟨W.heap.size + 1, 0, none⟩ (.int .i64 0)).setCell ⟨W.heap.size + 1, 1, none⟩ (.int .i64 0)) := by
        repeat (first | with_reducible exact Below.refl _ _ | (with_reducible refine bel_set ?_ ?_ _; rotate_left; (simp only; omega)))
      have hx4 := ((((hs.bx.set 0 (.slice A1 s.ss.length c1)).set 1 (.slice A2 s.es.length c2)).set 2 (.slice A3 s.fs.length c3)).far (p := ⟨W.heap.size + 1, 0, none⟩) (by simp) (.int .i64 0)).far (p := ⟨W.heap.size + 1, 1, none⟩) (by simp) (.int .i64 0)
      have hx5 := hx4.cast (cs' := #[.slice A1 s.ss.length c1, .slice A2 s.es.length c2, .slice A3 s.fs.length c3]) (by simp)
      have hy4 := ((((hs.be.far (p := ⟨W.heap.size, 0, none⟩) (by simp) (.slice A1 s.ss.length c1)).far (p := ⟨W.heap.size, 1, none⟩) (by simp) (.slice A2 s.es.length c2)).far (p := ⟨W.heap.size, 2, none⟩) (by simp) (.slice A3 s.fs.length c3)).set 0 (.int .i64 0)).set 1 (.int .i64 0)
      have hy5 := hy4.cast (cs' := #[.int .i64 0, .int .i64 0]) (by simp)
      have HRW : ∀ (c : Nat) (v : Value) (d : D), Rd w2 (fun j => W.heap.size < j ∧ j < N ∧ col j = c) v d → c ≠ 3 → Rd _ (fun j => W.heap.size ≤ j) v d := fun c v d hd hc => (hd.step (W' := ((((w2.setCell ⟨W.heap.size, 0, none⟩ (.slice A1 s.ss.length c1)).setCell ⟨W.heap.size, 1, none⟩ (.slice A2 s.es.length c2)).setCell ⟨W.heap.size, 2, none⟩ (.slice A3 s.fs.length c3)).setCell ⟨W.heap.size + 1, 0, none⟩ (.int .i64 0)).setCell ⟨W.heap.size + 1, 1, none⟩ (.int .i64 0)) (fun k hk _ => by
        have h1 := hk.1
        have h2 : k ≠ W.heap.size + 1 := fun e => hc (by rw [← hk.2.2, e]; exact hs.hE.2.2)
        rw [Below.heap_setCell _ _ _ _ (by simpa using h2), Below.heap_setCell _ _ _ _ (by simpa using h2), Below.heap_setCell _ _ _ _ (by simp; omega), Below.heap_setCell _ _ _ _ (by simp; omega), Below.heap_setCell _ _ _ _ (by simp; omega)])).mono (fun k hk => Nat.le_of_lt hk.1)
      have HRD := Lib.hid (show Rds _ (fun j => W.heap.size ≤ j) [.slice A1 s.ss.length c1, .slice A2 s.es.length c2, .slice A3 s.fs.length c3] (Src.d s) from ⟨HRW 0 _ _ hs.hss (by decide), HRW 1 _ _ hs.hes (by decide), HRW 2 _ _ hs.hfs (by decide), trivial⟩)
      have HX5 := Lib.hid hx5
      have HY5 := Lib.hid hy5
      have HG5 := Lib.hid (grown_then HG2.out hb4 (Nat.le_refl _))
      obtain ⟨lS, cS, fS⟩ := hs.bx.see
      obtain ⟨lE, cE, fE⟩ := hs.be.see
      clear hs hb4 hx4 hx5 hy4 hy5 HRW HQ
      go_wp2_with fail
      clear lS cS fS lE cE fE
      generalize ((((w2.setCell ⟨W.heap.size, 0, none⟩ (.slice A1 s.ss.length c1)).setCell ⟨W.heap.size, 1, none⟩ (.slice A2 s.es.length c2)).setCell ⟨W.heap.size, 2, none⟩ (.slice A3 s.fs.length c3)).setCell ⟨W.heap.size + 1, 0, none⟩ (.int .i64 0)).setCell ⟨W.heap.size + 1, 1, none⟩ (.int .i64 0) = w9 at *
      refine leaves_cons (f := 101) (args := #[.pointer (some ⟨W.heap.size, 0, none⟩), .pointer (some ⟨W.heap.size + 1, 0, none⟩)]) (by simp) (by simp [go_sem]) ?_
      refine (catch_idle _).mono ?_
      rintro e u' w'' ⟨rfl, rfl, rfl⟩
      obtain ⟨lS, cS, fS⟩ := HX5.out.see
      obtain ⟨lE, cE, fE⟩ := HY5.out.see
      exact ⟨.tuple #[.agg #[.slice A1 s.ss.length c1, .slice A2 s.es.length c2, .slice A3 s.fs.length c3], .agg #[.int .i64 0, .int .i64 0]], (by simp only [results, Tryz.results52]; go_simp), HG5.out, .inl ⟨s, us, _, HPF.out, rfl, HRD.out⟩⟩
    · go_wp2_with fail
      refine (item_rd (W := W) HR2.out HG2.out hR (Nat.le_refl _) HS2.out ⟨by omega, by omega, by omega⟩).mono ?_
      rintro e w3 (⟨hg, hs, er, at2, hp, rfl⟩ | ⟨hg, s', us', hp, rfl, hs, hr⟩)
      · have HPF : Hid (itemsP (ts.length + 1) .zero ts = .error (er, at2)) := Lib.hid (by rw [HP.out]; exact items_e hk hp)
        obtain ⟨v1, v2, v3, hbx, hlt, hbe⟩ := hs.box
        have HX := Lib.hid hbx
        have HY := Lib.hid hbe
        have HG3 := Lib.hid hg
        clear hs hbx hbe hg hp
        go_wp2_with fail
        refine leaves_cons (f := 101) (args := #[.pointer (some ⟨W.heap.size, 0, none⟩), .pointer (some ⟨W.heap.size + 1, 0, none⟩)]) (by simp) (by simp [go_sem]) ?_
        refine (catch_panicking er at2 _ HX.out HY.out (by simp) (Nat.le_refl _) (by simp) []).mono ?_
        rintro e u' w'' ⟨rfl, rfl, hb, hx, hy⟩
        obtain ⟨lS, cS, fS⟩ := hx.see
        obtain ⟨lE, cE, fE⟩ := hy.see
        exact ⟨.tuple #[.agg #[.slice none 0 0, .slice none 0 0, .slice none 0 0], .agg #[.int .i64 er, .int .i64 at2]], (by simp only [results, Tryz.results52]; go_simp), grown_then HG3.out hb (Nat.le_refl _), .inr ⟨er, at2, HPF.out, rfl⟩⟩
      · have hlt := (Lt.item s us s' us' hp).2
        have hct := item_count hp
        have HP2 : Hid (itemsP (ts.length + 1) .zero ts = itemsP n s' us') := Lib.hid (by rw [HP.out]; exact items_t hk hp)
        have HG3 := Lib.hid hg
        have HS3 := Lib.hid hs
        have HR3 := Lib.hid hr
        clear hg hs hr hp HP HR2 HG2 HS2
        go_wp2_with fail
        go_roundg (us'.length + 1)
        case measure => omega
        case rel => exact ⟨us', s', n, by omega, by omega, by omega, HR3, HG3, HS3, HP2⟩
end Go.Proofs.YtjoiflokekebkaaGreatDoor
end

section
/- Walks: parse.Parse. -/
namespace Go.Proofs.YtjoiflokekebkaaGreatDoor
open Go.RowKit Go.Proofs.YtjoiflokekebkaaGreatDoorW.PrintLast

theorem rdr_lex {w : World} {base : Nat} {l : List Tk} {v : Value} (ho : w.ownsRow base 73 4 v l.length (tcells l)) (ht : Toks l) : Rdr (w.alloc (.cells #[v] 113)) w.heap.size l := by
  have h0 : 0 < l.length := List.length_pos_iff.2 ht.ne
  obtain ⟨A, c, rfl⟩ := row_slice ho
  obtain ⟨g, rfl, hb, hg, hz, hc⟩ := row_at ho h0
  have hcap : l.length ≤ c := by
    obtain ⟨_, ⟨hv, _⟩ | ⟨g', cap, cur, hv, _, _, hn, _⟩⟩ := ho
    · cases hv
    · injection hv with _ _ hv; omega
  refine ⟨⟨g, 0, c, heap_alloc_new w _, hg, hcap, fun i t hi => ?_⟩, ht⟩
  obtain ⟨a, b, d, e⟩ := tcells_at l i t hi
  have hm : ∀ j u, (tcells l)[j]? = some u → (w.alloc (.cells #[.slice (some ⟨g, 0, none⟩) l.length c] 113)).cell? ⟨g, j, none⟩ = some u := fun j u hj => by
    have h1 := hc j u hj
    have h2 := ((Below.refl w.heap.size w).alloc (Nat.le_refl _) (.cells #[.slice (some ⟨g, 0, none⟩) l.length c] 113)).block g hg
    unfold World.cell? at h1 ⊢
    rw [show (w.alloc (.cells #[.slice (some ⟨g, 0, none⟩) l.length c] 113)).heap[(⟨g, j, none⟩ : Addr).block]? = w.heap[(⟨g, j, none⟩ : Addr).block]? from h2]
    exact h1
  simp only [Nat.zero_add]
  exact ⟨hm _ _ a, hm _ _ b, hm _ _ d, hm _ _ e⟩
theorem Below.of_grown {w w' : World} {B R : Nat} (hg : w.grownBy w' (some R)) (hB : B ≤ R) (hs : B ≤ w.heap.size) : Below B w w' :=
  ⟨hg.os, hg.tape, hg.output, hg.size, fun k hk => hg.block k (by omega) (fun e => by injection e; omega)⟩
theorem Put.drew {lo hi : Nat} {w w' : World} (h : Put lo hi w w') : Put lo hi w w'.drew := ⟨h.os, h.tape, h.output, h.size, h.block⟩
theorem src_open {w : World} {ok : Nat → Prop} {cs : List Value} {x : Src} (h : Rds w ok cs (Src.d x)) : ∃ A1 c1 A2 c2 A3 c3, cs = [.slice A1 x.ss.length c1, .slice A2 x.es.length c2, .slice A3 x.fs.length c3] := by
  match cs, h with
  | [a, b, c], h =>
    obtain ⟨h1, h2, h3, _⟩ := h
    obtain ⟨A1, c1, rfl⟩ := h1.slice
    obtain ⟨A2, c2, rfl⟩ := h2.slice
    obtain ⟨A3, c3, rfl⟩ := h3.slice
    exact ⟨A1, c1, A2, c2, A3, c3, by simp⟩
/-- What Parse hands back. -/
def ParseEnd (W W' : World) (s : ByteArray) (e : Ending) : Prop :=
  (∃ er at_, parseB s = .error (er, at_) ∧ e = .returned (.tuple #[.agg #[.slice none 0 0, .slice none 0 0, .slice none 0 0], .int .i64 er, .int .i64 at_])) ∨
  (∃ x cs, parseB s = .ok x ∧ e = .returned (.tuple #[.agg (List.toArray cs), .int .i64 0, .int .i64 0]) ∧ Rds W' (fun j => W.heap.size ≤ j) cs (Src.d x))
set_option maxRecDepth 100000 in
set_option maxHeartbeats 8000000 in
theorem parse_any (s : ByteArray) (hs : s.size ≤ 9000000000000000000) (W : World) (hv : HasErr W) : Calls Tryz.prog 24 #[.string s] W fun e W' => ParseEnd W W' s e ∧ Below W.heap.size W W' := by
  have HBX := Lib.hid (.newAt rfl : Bx 26 (W.alloc (.cells #[.slice none 0 0, .slice none 0 0, .slice none 0 0] 26)) W.heap.size #[.slice none 0 0, .slice none 0 0, .slice none 0 0])
  have hbl := (Below.refl W.heap.size W).alloc (Nat.le_refl _) (.cells #[.slice none 0 0, .slice none 0 0, .slice none 0 0] 26)
  have HV := Lib.hid (hv.below hbl)
  have HB := Lib.hid hbl
  clear hv hbl
  go_enter Tryz.func24, Tryz.ntmps24
  go_wp2_with fail
  generalize W.alloc (.cells #[.slice none 0 0, .slice none 0 0, .slice none 0 0] 26) = w1 at *
  refine (lex_any s hs w1 HV.out).mono ?_
  rintro e w2 ⟨⟨er, at_, hp, rfl⟩ | ⟨l, v, hp, ho, hlen, rfl⟩, hb⟩
  · have hne : ¬ er = 0 := lexB_err hp
    have hne2 : (er != 0) = true := bne_iff_ne.2 hne
    have HPF : Hid (parseB s = .error (er, (at_ : Int))) := Lib.hid (by rw [parseB, hp])
    have HX2 := Lib.hid (HBX.out.below hb)
    have HB2 := Lib.hid (HB.out.trans (hb.mono HB.out.size))
    obtain ⟨lX, cX, fX⟩ := HX2.out.see
    clear hb hp
    go_wp2_with fail
    refine bodyPost_ret (v := .tuple #[.agg #[.slice none 0 0, .slice none 0 0, .slice none 0 0], .int .i64 er, .int .i64 (at_ : Int)]) (by (simp only [results, Tryz.results24]; go_simp)) rfl ⟨.inl ⟨er, at_, HPF.out, rfl⟩, HB2.out.trans ?_⟩
    repeat (first | with_reducible exact Below.refl _ _ | (with_reducible refine bel_set ?_ ?_ _; rotate_left; (simp only; omega)))
  · obtain ⟨A, c, rfl⟩ := row_slice ho
    have HPF := Lib.hid hp
    have HT := Lib.hid (lexB_toks hp).1
    have HO := Lib.hid ho
    have HX2 := Lib.hid (HBX.out.below hb)
    have HB2 := Lib.hid (HB.out.trans (hb.mono HB.out.size))
    clear hb hp ho
    go_wp2_with fail
    refine (read_rd (rdr_lex HO.out HT.out)).mono ?_
    rintro e w3 ⟨hg, ⟨x, us, cs, hp, rfl, hrd⟩ | ⟨er, at2, hp, rfl⟩⟩
    · have HPE : Hid (parseB s = .ok x) := Lib.hid (by rw [parseB, HPF.out]; simp only [hp])
      obtain ⟨A1, c1, A2, c2, A3, c3, rfl⟩ := src_open hrd
      have HRD := Lib.hid hrd
      have HG3 := Lib.hid hg
      clear hg hp hrd
      have HX3 : Hid (Bx 26 ((w3.alloc (.cells #[.slice A1 x.ss.length c1, .slice A2 x.es.length c2, .slice A3 x.fs.length c3] 26)).alloc (.cells #[.int .i64 0, .int .i64 0] 115)) W.heap.size #[.slice none 0 0, .slice none 0 0, .slice none 0 0]) := Lib.hid ((((HX2.out.alloc _).kept HG3.out (Nat.ne_of_gt (blk_lt HX2.out))).alloc _).alloc _)
      have HP3 : Hid (Bx 26 ((w3.alloc (.cells #[.slice A1 x.ss.length c1, .slice A2 x.es.length c2, .slice A3 x.fs.length c3] 26)).alloc (.cells #[.int .i64 0, .int .i64 0] 115)) w3.heap.size #[.slice A1 x.ss.length c1, .slice A2 x.es.length c2, .slice A3 x.fs.length c3]) := Lib.hid ((Bx.newAt rfl).alloc _)
      have HQ3 : Hid (Bx 115 ((w3.alloc (.cells #[.slice A1 x.ss.length c1, .slice A2 x.es.length c2, .slice A3 x.fs.length c3] 26)).alloc (.cells #[.int .i64 0, .int .i64 0] 115)) (w3.heap.size + 1) #[.int .i64 0, .int .i64 0]) := Lib.hid (.newAt (by simp))
      have hz : W.heap.size < w3.heap.size := by have := blk_lt HX2.out; have := HG3.out.size; simp at this; omega
      have HB3 := Lib.hid ((HB2.out.trans ((Below.refl W.heap.size w2).alloc HB2.out.size (.cells #[.slice A l.length c] 113))).trans (Below.of_grown HG3.out HB2.out.size (by have := HB2.out.size; simp; omega)))
      have HB5 : Hid (Below W.heap.size W ((w3.alloc (.cells #[.slice A1 x.ss.length c1, .slice A2 x.es.length c2, .slice A3 x.fs.length c3] 26)).alloc (.cells #[.int .i64 0, .int .i64 0] 115))) := Lib.hid ((HB3.out.alloc (by omega) _).alloc (by simp; omega) _)
      have HRD5 : Hid (Rds ((w3.alloc (.cells #[.slice A1 x.ss.length c1, .slice A2 x.es.length c2, .slice A3 x.fs.length c3] 26)).alloc (.cells #[.int .i64 0, .int .i64 0] 115)) (fun j => W.heap.size < j) [.slice A1 x.ss.length c1, .slice A2 x.es.length c2, .slice A3 x.fs.length c3] (Src.d x)) := Lib.hid (((HRD.out.below ((Below.refl _ _).alloc (Nat.le_refl _) _)).below ((Below.refl _ _).alloc (Nat.le_refl _) _)).mono (fun k hk => by have := blk_lt HX2.out; simp at hk; omega))
      go_wp2_with fail
      generalize ((w3.alloc (.cells #[.slice A1 x.ss.length c1, .slice A2 x.es.length c2, .slice A3 x.fs.length c3] 26)).alloc (.cells #[.int .i64 0, .int .i64 0] 115)) = w5 at *
      have HFIN : ∀ w', Put W.heap.size (W.heap.size + 1) w5 w' → (ParseEnd W w' s (.returned (.tuple #[.agg #[.slice A1 x.ss.length c1, .slice A2 x.es.length c2, .slice A3 x.fs.length c3], .int .i64 0, .int .i64 0])) ∧ Below W.heap.size W w') := fun w' hput => ⟨.inr ⟨x, _, HPE.out, rfl, (HRD5.out.step (fun k hk _ => hput.block k (.inr hk))).mono (fun k hk => Nat.le_of_lt hk)⟩, HB5.out.trans ⟨hput.os, hput.tape, hput.output, Nat.le_of_eq hput.size.symm, fun k hk => hput.block k (.inl hk)⟩⟩
      generalize w3.heap.size = z at *
      have hn1 : (W.heap.size = z) = False := eq_false (by omega)
      have hn2 : (z = W.heap.size) = False := eq_false (by omega)
      have hn3 : (W.heap.size = z + 1) = False := eq_false (by omega)
      have hn4 : (z + 1 = W.heap.size) = False := eq_false (by omega)
      obtain ⟨lX, cX, fX⟩ := HX3.out.see
      obtain ⟨lP, cP, fP⟩ := HP3.out.see
      obtain ⟨lQ, cQ, fQ⟩ := HQ3.out.see
      have hKK : ∀ a b : Nat, a = a := fun _ _ => rfl
      clear hKK
      go_region
      all_goals go_wp2_with fail
      all_goals
        refine bodyPost_ret (v := .tuple #[.agg #[.slice A1 x.ss.length c1, .slice A2 x.es.length c2, .slice A3 x.fs.length c3], .int .i64 0, .int .i64 0]) (by (simp only [results, Tryz.results24]; go_simp)) rfl (HFIN _ ?_)
        repeat (first | with_reducible exact Put.refl _ _ _ | with_reducible refine Put.drew ?_ | (with_reducible refine Put.set ?_ ?_ ?_ _; rotate_left; (simp only; omega); (simp only; omega)))
    · have HPE : Hid (parseB s = .error (er, at2)) := Lib.hid (by rw [parseB, HPF.out]; simp only [hp])
      have HG3 := Lib.hid hg
      clear hg hp
      have HX3 : Hid (Bx 26 ((w3.alloc (.cells #[.slice none 0 0, .slice none 0 0, .slice none 0 0] 26)).alloc (.cells #[.int .i64 er, .int .i64 at2] 115)) W.heap.size #[.slice none 0 0, .slice none 0 0, .slice none 0 0]) := Lib.hid ((((HX2.out.alloc _).kept HG3.out (Nat.ne_of_gt (blk_lt HX2.out))).alloc _).alloc _)
      have HP3 : Hid (Bx 26 ((w3.alloc (.cells #[.slice none 0 0, .slice none 0 0, .slice none 0 0] 26)).alloc (.cells #[.int .i64 er, .int .i64 at2] 115)) w3.heap.size #[.slice none 0 0, .slice none 0 0, .slice none 0 0]) := Lib.hid ((Bx.newAt rfl).alloc _)
      have HQ3 : Hid (Bx 115 ((w3.alloc (.cells #[.slice none 0 0, .slice none 0 0, .slice none 0 0] 26)).alloc (.cells #[.int .i64 er, .int .i64 at2] 115)) (w3.heap.size + 1) #[.int .i64 er, .int .i64 at2]) := Lib.hid (.newAt (by simp))
      have hz : W.heap.size < w3.heap.size := by have := blk_lt HX2.out; have := HG3.out.size; simp at this; omega
      have HB3 := Lib.hid ((HB2.out.trans ((Below.refl W.heap.size w2).alloc HB2.out.size (.cells #[.slice A l.length c] 113))).trans (Below.of_grown HG3.out HB2.out.size (by have := HB2.out.size; simp; omega)))
      have HB5 : Hid (Below W.heap.size W ((w3.alloc (.cells #[.slice none 0 0, .slice none 0 0, .slice none 0 0] 26)).alloc (.cells #[.int .i64 er, .int .i64 at2] 115))) := Lib.hid ((HB3.out.alloc (by omega) _).alloc (by simp; omega) _)
      go_wp2_with fail
      generalize ((w3.alloc (.cells #[.slice none 0 0, .slice none 0 0, .slice none 0 0] 26)).alloc (.cells #[.int .i64 er, .int .i64 at2] 115)) = w5 at *
      have HFIN : ∀ w', Put W.heap.size (W.heap.size + 1) w5 w' → (ParseEnd W w' s (.returned (.tuple #[.agg #[.slice none 0 0, .slice none 0 0, .slice none 0 0], .int .i64 er, .int .i64 at2])) ∧ Below W.heap.size W w') := fun w' hput => ⟨.inl ⟨er, at2, HPE.out, rfl⟩, HB5.out.trans ⟨hput.os, hput.tape, hput.output, Nat.le_of_eq hput.size.symm, fun k hk => hput.block k (.inl hk)⟩⟩
      generalize w3.heap.size = z at *
      have hn1 : (W.heap.size = z) = False := eq_false (by omega)
      have hn2 : (z = W.heap.size) = False := eq_false (by omega)
      have hn3 : (W.heap.size = z + 1) = False := eq_false (by omega)
      have hn4 : (z + 1 = W.heap.size) = False := eq_false (by omega)
      obtain ⟨lX, cX, fX⟩ := HX3.out.see
      obtain ⟨lP, cP, fP⟩ := HP3.out.see
      obtain ⟨lQ, cQ, fQ⟩ := HQ3.out.see
      have hKK : ∀ a b : Nat, a = a := fun _ _ => rfl
      clear hKK
      go_region
      all_goals go_wp2_with fail
      all_goals
        refine bodyPost_ret (v := .tuple #[.agg #[.slice none 0 0, .slice none 0 0, .slice none 0 0], .int .i64 er, .int .i64 at2]) (by (simp only [results, Tryz.results24]; go_simp)) rfl (HFIN _ ?_)
        repeat (first | with_reducible exact Put.refl _ _ _ | with_reducible refine Put.drew ?_ | (with_reducible refine Put.set ?_ ?_ ?_ _; rotate_left; (simp only; omega); (simp only; omega)))
end Go.Proofs.YtjoiflokekebkaaGreatDoor
end

section
/- The document's examples: works. -/
namespace Go.Proofs.YtjoiflokekebkaaGreatDoor
open Go.RowKit

def text1 : ByteArray := ⟨#[99, 111, 32, 102, 40, 41, 32, 123, 32, 114, 101, 116, 117, 114, 110, 32, 49, 59, 32, 125]⟩
def text2 : ByteArray := ⟨#[99, 111, 32, 102, 40, 41, 32, 123, 32, 120, 32, 61, 32, 59, 32, 125]⟩
def src1 : Src := ⟨[], [], [⟨⟨#[102]⟩, [], [.mk 6 9 noB .zero .zero .zero ⟨true, 1, ⟨noB, []⟩⟩ [] [] []], 0⟩]⟩
theorem parse_text2 : parseB text2 = .error (60, 13) := by kernel_rfl
theorem parse_text1 : parseB text1 = .ok src1 := by kernel_rfl
/-- A row of one element: its cells. -/
theorem Rd.one {W : World} {ok : Nat → Prop} {e : TypeId} {sz : Nat} {u : Value} {ds : List D} (h : Rd W ok u (.row e sz [ds])) :
    ∃ g c, u = .slice (some ⟨g, 0, none⟩) 1 c ∧ g < W.heap.size ∧ ∀ (j : Nat) (d : D), ds[j]? = some d → ∃ x, W.cell? ⟨g, j, none⟩ = some x ∧ Rd W ok x d := by
  cases h with
  | @row _ _ _ _ _ xs ho hk hl hr =>
    obtain ⟨A, c, rfl⟩ := row_slice ho
    obtain ⟨g, rfl, _, hg, _, hc⟩ := row_at ho (by simp)
    refine ⟨g, c, rfl, hg, fun j d hj => ?_⟩
    have h1 := hr 0 ds j d rfl hj
    have hlen : xs.length = 1 * sz := ho.1
    have hjl : j < ds.length := (List.getElem?_eq_some_iff.1 hj).1
    have hds : ds.length = sz := hl 0 ds rfl
    have hx : xs[j]? = some (xs.getD (0 * sz + j) .nilIface) := by
      rw [List.getD_eq_getElem?_getD, Nat.zero_mul, Nat.zero_add, List.getElem?_eq_getElem (by omega)]
      rfl
    exact ⟨_, hc j _ hx, h1.mono (fun k hk => hk.1)⟩
theorem src1_open {W : World} {ok : Nat → Prop} {v : Value} (h : Rd W ok v (.row 50 4 (src1.fs.map Fnc.d))) :
    ∃ g c g2 c2, v = .slice (some ⟨g, 0, none⟩) 1 c ∧ W.cell? ⟨g, 0, none⟩ = some (.string ⟨#[102]⟩) ∧ W.cell? ⟨g, 2, none⟩ = some (.slice (some ⟨g2, 0, none⟩) 1 c2) ∧ W.cell? ⟨g2, 1, none⟩ = some (.int .i64 9) := by
  obtain ⟨g, c, rfl, _, h1⟩ := Rd.one (ds := Fnc.d ⟨⟨#[102]⟩, [], [.mk 6 9 noB .zero .zero .zero ⟨true, 1, ⟨noB, []⟩⟩ [] [] []], 0⟩) h
  obtain ⟨x0, hx0, hr0⟩ := h1 0 _ rfl
  obtain ⟨x2, hx2, hr2⟩ := h1 2 _ rfl
  obtain rfl := hr0.v_eq
  simp only [Stm.ds] at hr2
  obtain ⟨g2, c2, rfl, _, h2⟩ := Rd.one hr2
  obtain ⟨x1, hx1, hr1⟩ := h2 1 (.v (.int .i64 9)) (by simp [Stm.d, Ty.d])
  obtain rfl := hr1.v_eq
  exact ⟨g, c, g2, c2, rfl, hx0, hx2, hx1⟩
set_option maxRecDepth 100000 in
set_option maxHeartbeats 8000000 in
theorem works_any {W : World} (hv : HasErr W) : Calls Tryz.prog 23 #[] W fun e W' => e = .returned (.bool true) ∧ Below W.heap.size W W' := by
  have HV := Lib.hid hv
  clear hv
  go_enter Tryz.func23, Tryz.ntmps23
  go_wp2_with fail
  refine (parse_any text1 (by decide) W HV.out).mono ?_
  rintro e w1 ⟨⟨er, at_, hp, rfl⟩ | ⟨x, cs, hp, rfl, hrd⟩, hb⟩
  · rw [parse_text1] at hp
    cases hp
  rw [parse_text1] at hp
  injection hp with hp
  subst hp
  obtain ⟨A1, c1, A2, c2, A3, c3, rfl⟩ := src_open hrd
  have HRD := Lib.hid hrd.2.2.1
  have HV1 := Lib.hid (HV.out.below hb)
  have HB := Lib.hid hb
  clear hb hrd HV
  go_wp2_with fail
  have HX : Hid (Bx 26 (w1.alloc (.cells #[.slice A1 src1.ss.length c1, .slice A2 src1.es.length c2, .slice A3 src1.fs.length c3] 26)) w1.heap.size #[.slice A1 src1.ss.length c1, .slice A2 src1.es.length c2, .slice A3 src1.fs.length c3]) := Lib.hid (.newAt rfl)
  have HR2 := Lib.hid (HRD.out.bel ((Below.refl w1.heap.size w1).alloc (Nat.le_refl _) (.cells #[.slice A1 src1.ss.length c1, .slice A2 src1.es.length c2, .slice A3 src1.fs.length c3] 26)))
  have HV2 := Lib.hid (HV1.out.below ((Below.refl w1.heap.size w1).alloc (Nat.le_refl _) (.cells #[.slice A1 src1.ss.length c1, .slice A2 src1.es.length c2, .slice A3 src1.fs.length c3] 26)))
  have HB2 := Lib.hid (HB.out.alloc HB.out.size (.cells #[.slice A1 src1.ss.length c1, .slice A2 src1.es.length c2, .slice A3 src1.fs.length c3] 26))
  clear HRD HV1 HB
  generalize (w1.alloc (.cells #[.slice A1 src1.ss.length c1, .slice A2 src1.es.length c2, .slice A3 src1.fs.length c3] 26)) = w2 at *
  generalize w1.heap.size = z at *
  refine (parse_any text2 (by decide) w2 HV2.out).mono ?_
  rintro e w3 ⟨⟨er, at_, hp, rfl⟩ | ⟨x, cs, hp, rfl, hrd⟩, hb⟩
  rotate_left
  · rw [parse_text2] at hp
    cases hp
  rw [parse_text2] at hp
  injection hp with hp
  injection hp with h1 h2
  subst h1 h2
  have HX4 : Hid (Bx 26 (w3.alloc (.cells #[.slice none 0 0, .slice none 0 0, .slice none 0 0] 26)) z #[.slice A1 src1.ss.length c1, .slice A2 src1.es.length c2, .slice A3 src1.fs.length c3]) := Lib.hid ((HX.out.below hb).alloc _)
  have HR4 := Lib.hid ((HR2.out.bel hb).bel ((Below.refl w3.heap.size w3).alloc (Nat.le_refl _) (.cells #[.slice none 0 0, .slice none 0 0, .slice none 0 0] 26)))
  have HB3 := Lib.hid (HB2.out.trans (hb.mono HB2.out.size))
  have HB4 := Lib.hid (HB3.out.alloc HB3.out.size (.cells #[.slice none 0 0, .slice none 0 0, .slice none 0 0] 26))
  clear hb HX HR2 HV2 HB2 HB3
  obtain ⟨g, c, g2, c4, hv, k0, k2, k3⟩ := src1_open HR4.out
  have hl3 : src1.fs.length = 1 := rfl
  rw [hl3] at hv HX4 HR4 ⊢
  injection hv with hA _ hc
  subst hA hc
  obtain ⟨lX, cX, fX⟩ := HX4.out.see
  clear HX4 HR4
  go_wp2_with fail
  go_ret
  exact ⟨rfl, HB4.out⟩
end Go.Proofs.YtjoiflokekebkaaGreatDoor
end
