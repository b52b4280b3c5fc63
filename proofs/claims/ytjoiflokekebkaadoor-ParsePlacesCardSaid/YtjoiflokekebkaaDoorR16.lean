/- Walks: an item. -/
import Derived.Deep.WholeRow
import Derived.Test.YtjoiflokekebkaaDoorR15
import Derived.Test.YtjoiflokekebkaaDoorR6f
import Derived.Test.YtjoiflokekebkaaDoorR6v
set_option linter.all false
namespace Go.Proofs.YtjoiflokekebkaaDoor
open Go.RowKit Go.Proofs.YtjoiflokekebkaaDoorW.PrintLast

theorem SrcAt.add_ss {S E m : Nat} {col : Nat → Nat} {w : World} {s : Src} {x : Str} {A1 A2 A3 : Option Addr} {c1 c2 c3 : Nat} {u : Value} (hb : Bx 31 w S #[u, (.slice A2 s.es.length c2), (.slice A3 s.fs.length c3)]) (hE : S < E ∧ E < m ∧ col E = 3) (be : Bx 73 w E #[.int .i64 0, .int .i64 0]) (hes : Rd w (fun j => S < j ∧ j < m ∧ col j = 1) (.slice A2 s.es.length c2) (.row 44 3 (s.es.map Enm.d))) (hfs : Rd w (fun j => S < j ∧ j < m ∧ col j = 2) (.slice A3 s.fs.length c3) (.row 38 4 (s.fs.map Fnc.d)))
    (hn : Rd w (fun j => S < j ∧ (if j < m then col j else 0) = 0) u (.row 41 4 (s.ss.map Str.d ++ [Str.d x]))) : SrcAt S E w { s with ss := s.ss ++ [x] } := by
  obtain ⟨A, c, rfl⟩ := hn.slice
  have hl : (s.ss.map Str.d ++ [Str.d x]).length = (s.ss ++ [x]).length := by simp
  have hm : s.ss.map Str.d ++ [Str.d x] = (s.ss ++ [x]).map Str.d := by simp
  rw [hl, hm] at hn
  rw [hl] at hb
  exact ⟨w.heap.size, fun j => if j < m then col j else 0, A, c, A2, c2, A3, c3, hb, ⟨hE.1, blk_lt be, by rw [if_pos hE.2.1]; exact hE.2.2⟩, be, (hn.bound.mono (fun k hk => ⟨hk.1.1, hk.2, hk.1.2⟩)), (hes.bound.mono (fun k hk => ⟨hk.1.1, hk.2, by rw [if_pos hk.1.2.1]; exact hk.1.2.2⟩)), (hfs.bound.mono (fun k hk => ⟨hk.1.1, hk.2, by rw [if_pos hk.1.2.1]; exact hk.1.2.2⟩))⟩
theorem SrcAt.add_es {S E m : Nat} {col : Nat → Nat} {w : World} {s : Src} {x : Enm} {A1 A2 A3 : Option Addr} {c1 c2 c3 : Nat} {u : Value} (hb : Bx 31 w S #[(.slice A1 s.ss.length c1), u, (.slice A3 s.fs.length c3)]) (hE : S < E ∧ E < m ∧ col E = 3) (be : Bx 73 w E #[.int .i64 0, .int .i64 0]) (hss : Rd w (fun j => S < j ∧ j < m ∧ col j = 0) (.slice A1 s.ss.length c1) (.row 41 4 (s.ss.map Str.d))) (hfs : Rd w (fun j => S < j ∧ j < m ∧ col j = 2) (.slice A3 s.fs.length c3) (.row 38 4 (s.fs.map Fnc.d)))
    (hn : Rd w (fun j => S < j ∧ (if j < m then col j else 1) = 1) u (.row 44 3 (s.es.map Enm.d ++ [Enm.d x]))) : SrcAt S E w { s with es := s.es ++ [x] } := by
  obtain ⟨A, c, rfl⟩ := hn.slice
  have hl : (s.es.map Enm.d ++ [Enm.d x]).length = (s.es ++ [x]).length := by simp
  have hm : s.es.map Enm.d ++ [Enm.d x] = (s.es ++ [x]).map Enm.d := by simp
  rw [hl, hm] at hn
  rw [hl] at hb
  exact ⟨w.heap.size, fun j => if j < m then col j else 1, A1, c1, A, c, A3, c3, hb, ⟨hE.1, blk_lt be, by rw [if_pos hE.2.1]; exact hE.2.2⟩, be, (hss.bound.mono (fun k hk => ⟨hk.1.1, hk.2, by rw [if_pos hk.1.2.1]; exact hk.1.2.2⟩)), (hn.bound.mono (fun k hk => ⟨hk.1.1, hk.2, hk.1.2⟩)), (hfs.bound.mono (fun k hk => ⟨hk.1.1, hk.2, by rw [if_pos hk.1.2.1]; exact hk.1.2.2⟩))⟩
theorem SrcAt.add_fs {S E m : Nat} {col : Nat → Nat} {w : World} {s : Src} {x : Fnc} {A1 A2 A3 : Option Addr} {c1 c2 c3 : Nat} {u : Value} (hb : Bx 31 w S #[(.slice A1 s.ss.length c1), (.slice A2 s.es.length c2), u]) (hE : S < E ∧ E < m ∧ col E = 3) (be : Bx 73 w E #[.int .i64 0, .int .i64 0]) (hss : Rd w (fun j => S < j ∧ j < m ∧ col j = 0) (.slice A1 s.ss.length c1) (.row 41 4 (s.ss.map Str.d))) (hes : Rd w (fun j => S < j ∧ j < m ∧ col j = 1) (.slice A2 s.es.length c2) (.row 44 3 (s.es.map Enm.d)))
    (hn : Rd w (fun j => S < j ∧ (if j < m then col j else 2) = 2) u (.row 38 4 (s.fs.map Fnc.d ++ [Fnc.d x]))) : SrcAt S E w { s with fs := s.fs ++ [x] } := by
  obtain ⟨A, c, rfl⟩ := hn.slice
  have hl : (s.fs.map Fnc.d ++ [Fnc.d x]).length = (s.fs ++ [x]).length := by simp
  have hm : s.fs.map Fnc.d ++ [Fnc.d x] = (s.fs ++ [x]).map Fnc.d := by simp
  rw [hl, hm] at hn
  rw [hl] at hb
  exact ⟨w.heap.size, fun j => if j < m then col j else 2, A1, c1, A2, c2, A, c, hb, ⟨hE.1, blk_lt be, by rw [if_pos hE.2.1]; exact hE.2.2⟩, be, (hss.bound.mono (fun k hk => ⟨hk.1.1, hk.2, by rw [if_pos hk.1.2.1]; exact hk.1.2.2⟩)), (hes.bound.mono (fun k hk => ⟨hk.1.1, hk.2, by rw [if_pos hk.1.2.1]; exact hk.1.2.2⟩)), (hn.bound.mono (fun k hk => ⟨hk.1.1, hk.2, hk.1.2⟩))⟩
set_option maxRecDepth 100000 in
set_option maxHeartbeats 32000000 in
theorem item_rd {W w0 : World} {R S E : Nat} {ts : List Tk} {s : Src} (h : Rdr w0 R ts) (hg0 : W.grownBy w0 (some R)) (hR : R < W.heap.size) (hS : W.heap.size ≤ S) (hs : SrcAt S E w0 s) (hl : s.ss.length ≤ 100000 ∧ s.es.length ≤ 100000 ∧ s.fs.length ≤ 100000) :
    Calls Tryd.prog 24 #[.pointer (some ⟨R, 0, none⟩), .pointer (some ⟨S, 0, none⟩)] w0 fun e w' => Item s W R S E ts e w' := by
  obtain ⟨hls, hle_, hlf⟩ := hl
  obtain ⟨N, col, A1, c1, A2, c2, A3, c3, hs⟩ := hs
  have HG := Lib.hid hg0
  have HR := Lib.hid h
  have HS := Lib.hid hs
  have hRS : R < S := by omega
  have hf := tok_at
  have hmf := mf
  clear h hg0 hs
  go_enter Tryd.func24, Tryd.ntmps24
  go_wp2_with fail
  refine (next_rd HR.out).mono ?_
  rintro e w1 ⟨rfl, hb⟩
  have HG_ := Lib.hid (grown_then HG.out hb HG.out.size)
  have HR_ := Lib.hid (HR.out.below hb HR.out.lt)
  have HS_ := Lib.hid (HS.out.bel hb)
  clear hb HG HR HS
  have HG := HG_
  have HR := HR_
  have HS := HS_
  clear HG_ HR_ HS_
  obtain ⟨at_, hat⟩ : ∃ a, a = (hd ts).at_ := ⟨_, rfl⟩
  have HAT := Lib.hid hat
  rw [← hat]
  clear hat
  go_wp2_with fail
  refine (opt_rd HR.out ⟨#[100, 114, 111, 112]⟩).mono ?_
  rintro e w2 ⟨hg, ⟨hw, rfl, hr⟩ | ⟨hw, rfl, hr⟩⟩
  · skip
    have HIT : Hid (itemP s ts = ((structP true at_).bd fun x => .ret { s with ss := s.ss ++ [x] }) ts.tail) := Lib.hid (by rw [item_drop hw, ← HAT.out])
    clear hw
    have HG_ := Lib.hid (World.grownBy.trans HG.out hg)
    have HR_ := Lib.hid hr
    have HS_ := Lib.hid (HS.out.kept hg (by omega))
    clear hg hr HG HR HS
    have HG := HG_
    have HR := HR_
    have HS := HS_
    clear HG_ HR_ HS_
    go_wp2_with fail
    refine (must_rd HR.out ⟨#[115, 116, 114, 117, 99, 116]⟩).mono ?_
    rintro e w3 ⟨hg, ⟨⟨⟩, u1, v, hp, rfl, rfl, hr, hle⟩ | ⟨er, at9, hp, rfl⟩⟩
    · skip
      have HP2 := Lib.hid hp
      have HLE2 := Lib.hid hle
      clear hp hle
      have HG_ := Lib.hid (World.grownBy.trans HG.out hg)
      have HR_ := Lib.hid hr
      have HS_ := Lib.hid (HS.out.kept hg (by omega))
      clear hg hr HG HR HS
      have HG := HG_
      have HR := HR_
      have HS := HS_
      clear HG_ HR_ HS_
      go_wp2_with fail
      refine (name_rd HR.out true).mono ?_
      rintro e w4 ⟨hg, ⟨n, u2, v, hp, rfl, rfl, hr, hle⟩ | ⟨er, at9, hp, rfl⟩⟩
      · skip
        have HP3 := Lib.hid hp
        have HLE3 := Lib.hid hle
        clear hp hle
        have HG_ := Lib.hid (World.grownBy.trans HG.out hg)
        have HR_ := Lib.hid hr
        have HS_ := Lib.hid (HS.out.kept hg (by omega))
        clear hg hr HG HR HS
        have HG := HG_
        have HR := HR_
        have HS := HS_
        clear HG_ HR_ HS_
        have HS_ := Lib.hid HS.out.bound
        clear HS
        have HS := HS_
        clear HS_
        have hSm : S < w4.heap.size := blk_lt HS.out.bx
        have hlm : W.heap.size ≤ w4.heap.size := HG.out.size
        have HG_ := Lib.hid (grown_alloc HG.out (.cells #[.string n, .bool true, .slice none 0 0, .int .i64 at_] 41))
        have HR_ := Lib.hid (HR.out.below (bel_one HR.out.lt (.cells #[.string n, .bool true, .slice none 0 0, .int .i64 at_] 41)) (by omega))
        have HS_ := Lib.hid (HS.out.bel ((Below.refl _ _).alloc (Nat.le_refl _) (.cells #[.string n, .bool true, .slice none 0 0, .int .i64 at_] 41)))
        have HY_ : Hid (Bx 41 (w4.alloc (.cells #[.string n, .bool true, .slice none 0 0, .int .i64 at_] 41)) w4.heap.size #[.string n, .bool true, .slice none 0 0, .int .i64 at_]) := Lib.hid (.newAt rfl)
        clear HG HR HS
        have HG := HG_
        have HR := HR_
        have HS := HS_
        clear HG_ HR_ HS_
        have HY := HY_
        clear HY_
        go_wp2_with (first
          | (with_reducible refine wpList_store_row (o := ⟨none, .store 41 (.tmp 6) (.tmp 53), _, _, _, _⟩) rfl 41 _ _ rfl (w4.heap.size) #[.string n, .bool true, .slice none 0 0, .int .i64 at_] rfl rfl 41 #[.string ⟨#[]⟩, .bool false, .slice none 0 0, .int .i64 0] (heap_alloc_new w4 _) (by kernel_rfl) (by kernel_rfl) (by kernel_rfl) ?_
             rw [World.setRow_alloc_new]))
        generalize w4.alloc (.cells #[.string n, .bool true, .slice none 0 0, .int .i64 at_] 41) = w5 at *
        generalize w4.heap.size = m at *
        refine (must_rd HR.out ⟨#[123]⟩).mono ?_
        rintro e w6 ⟨hg, ⟨⟨⟩, u3, v, hp, rfl, rfl, hr, hle⟩ | ⟨er, at9, hp, rfl⟩⟩
        · skip
          have HP4 := Lib.hid hp
          have HLE4 := Lib.hid hle
          clear hp hle
          have HG_ := Lib.hid (World.grownBy.trans HG.out hg)
          have HR_ := Lib.hid hr
          have HY_ := Lib.hid (HY.out.kept hg (by omega))
          have HS_ := Lib.hid (HS.out.kept hg (by omega))
          clear hg hr HG HR HY HS
          have HG := HG_
          have HR := HR_
          have HY := HY_
          have HS := HS_
          clear HG_ HR_ HY_ HS_
          go_wp2_with fail
          refine (list_Field HR.out ⟨#[125]⟩).mono ?_
          rintro e w7 ⟨hg, ⟨l, u4, v, hp, rfl, hv, hr, hle⟩ | ⟨er, at9, hp, rfl⟩⟩
          · skip
            obtain ⟨A9, c9, rfl⟩ := hv.slice
            rw [List.length_map] at hv ⊢
            have hm3 := blk_lt HY.out
            have HL := Lib.hid (hv.low (m := m + 1) (by omega))
            clear hv hm3
            have HP5 := Lib.hid hp
            have HLE5 := Lib.hid hle
            clear hp hle
            have HG_ := Lib.hid (World.grownBy.trans HG.out hg)
            have HR_ := Lib.hid hr
            have HY_ := Lib.hid (HY.out.kept hg (by omega))
            have HS_ := Lib.hid (HS.out.kept hg (by omega))
            clear hg hr HG HR HY HS
            have HG := HG_
            have HR := HR_
            have HY := HY_
            have HS := HS_
            clear HG_ HR_ HY_ HS_
            obtain ⟨lHY, cHY, fHY⟩ := HY.out.see
            have HPUT := Lib.hid (Put.set (Put.refl m (m + 1) w7) (p := ⟨m, 2, none⟩) (by simp only; omega) (by simp only; omega) (.slice A9 l.length c9))
            have HG_ := Lib.hid (HPUT.out.grown HG.out (by omega))
            have HR_ := Lib.hid (HR.out.put HPUT.out (by omega))
            have HY_ : Hid (Bx 41 (w7.setCell ⟨m, 2, none⟩ (.slice A9 l.length c9)) m #[.string n, .bool true, .slice A9 l.length c9, .int .i64 at_]) := Lib.hid (by have h := HY.out.set 2 (.slice A9 l.length c9); simpa using h)
            have HS_ := Lib.hid (HS.out.put HPUT.out hSm (Nat.le_refl _))
            have HL_ := Lib.hid (HL.out.put HPUT.out (Nat.le_refl _))
            clear HPUT HG HR HY HS HL
            have HG := HG_
            have HR := HR_
            have HY := HY_
            have HS := HS_
            have HL := HL_
            clear HG_ HR_ HY_ HS_ HL_
            go_wp2_with fail
            clear lHY cHY fHY
            generalize (w7.setCell ⟨m, 2, none⟩ (.slice A9 l.length c9)) = w8 at *
            have HPF : Hid (itemP s ts = .ok ({ s with ss := s.ss ++ [(⟨n, true, l, at_⟩ : Str)] }, u4)) := Lib.hid (by rw [HIT.out, Ps.bd_ok (show _ = Except.ok ((⟨n, true, l, at_⟩ : Str), u4) from by rw [structP, Ps.bd_ok HP2.out, Ps.bd_ok HP3.out, Ps.bd_ok HP4.out, Ps.bd_ok HP5.out]; exact rfl)]; exact rfl)
            have HGd := Lib.hid (grown_then HG.out (bel_drew (Below.refl w8.heap.size w8)) HG.out.size)
            have HRd := Lib.hid (HR.out.below (bel_drew (Below.refl w8.heap.size w8)) HR.out.lt)
            have HSd := Lib.hid (HS.out.bel (bel_drew (Below.refl w8.heap.size w8)))
            have HYd := Lib.hid (HY.out.drew)
            have HLd := Lib.hid (HL.out.bel (bel_drew (Below.refl w8.heap.size w8)))
            have hm9 : m < w8.drew.heap.size := blk_lt HYd.out
            have HOB : Hid (∀ k, (Value.slice A1 s.ss.length c1).ownBlock = some k → S < k ∧ k < m ∧ col k = 0) := Lib.hid (fun k hk => by obtain ⟨xs, ho, h1⟩ := HSd.out.hss.owns; exact h1 k hk)
            have HA1 := Lib.hid (HSd.out.hss.mono (ok' := fun j => S < j ∧ (if j < m then col j else 0) = 0) (fun k hk => ⟨hk.1, by rw [if_pos hk.2.1]; exact hk.2.2⟩))
            have HC1 : Hid (Rds w8.drew (fun j => m + 1 ≤ j) [.string n, .bool true, .slice A9 l.length c9, .int .i64 at_] (Str.d (⟨n, true, l, at_⟩ : Str))) := Lib.hid (by simp only [Str.d]; exact ⟨.v _, .v _, HLd.out, .v _, trivial⟩)
            refine start_ (n := 11) (S := fun w' => w'.cell? ⟨S, 0, none⟩ = some (.slice A1 s.ss.length c1) ∧ w'.cell? ⟨m, 0, none⟩ = some (.string n) ∧ w'.cell? ⟨m, 1, none⟩ = some (.bool true) ∧ w'.cell? ⟨m, 2, none⟩ = some (.slice A9 l.length c9) ∧ w'.cell? ⟨m, 3, none⟩ = some (.int .i64 at_)) (ds := [10]) #[false, false, false, false, false, false, false, false, false, false, false] (by kernel_rfl) rfl rfl ⟨blk_cell HSd.out.bx 0, blk_cell HYd.out 0, blk_cell HYd.out 1, blk_cell HYd.out 2, blk_cell HYd.out 3⟩ (fun hHeld => ?_)
            refine pure_ (i := 0) (N := some 61) (v := ?_) (a' := ?_) #[true, false, false, false, false, false, false, false, false, false, false] rfl rfl (by kernel_rfl) (fun _ _ _ h => h) (Or.inl ⟨by rfl, ?_⟩) ?_ ?_
            rotate_left
            · intro w'
              go_simp
              with_reducible rfl
            rotate_left
            · simp only [Act.put, List.setIfInBounds_toArray, List.set_cons_zero, List.set_cons_succ, i64_w, i32_w]
              rfl
            refine pure_ (i := 1) (N := some 62) (v := ?_) (a' := ?_) #[true, true, false, false, false, false, false, false, false, false, false] rfl rfl (by kernel_rfl) (fun _ _ _ h => h) (Or.inl ⟨by rfl, ?_⟩) ?_ ?_
            rotate_left
            · intro w'
              go_simp
              with_reducible rfl
            rotate_left
            · simp only [Act.put, List.setIfInBounds_toArray, List.set_cons_zero, List.set_cons_succ, i64_w, i32_w]
              rfl
            refine pure_ (i := 2) (N := some 63) (v := ?_) (a' := ?_) #[true, true, true, false, false, false, false, false, false, false, false] rfl rfl (by kernel_rfl) (fun _ _ _ h => h) (Or.inl ⟨by rfl, ?_⟩) ?_ ?_
            rotate_left
            · intro w'
              go_simp
              with_reducible rfl
            rotate_left
            · simp only [Act.put, List.setIfInBounds_toArray, List.set_cons_zero, List.set_cons_succ, i64_w, i32_w]
              rfl
            refine pure_ (i := 3) (N := some 64) (v := ?_) (a' := ?_) #[true, true, true, true, false, false, false, false, false, false, false] rfl rfl (by kernel_rfl) (fun _ _ _ h => h) (Or.inl ⟨by rfl, ?_⟩) ?_ ?_
            rotate_left
            · intro w'
              go_simp
              with_reducible rfl
            rotate_left
            · simp only [Act.put, List.setIfInBounds_toArray, List.set_cons_zero, List.set_cons_succ, i64_w, i32_w]
              rfl
            refine take_ (i := 4) (N := some 65) (v := ?_) (a' := ?_) #[true, true, true, true, true, false, false, false, false, false, false] rfl rfl (by kernel_rfl) (fun _ _ _ h => h) (Or.inl ⟨by rfl, ?_⟩) hHeld ?_ ?_
            rotate_left
            · rintro w' ⟨s0, s1, s2, s3, s4⟩
              go_simp
              with_reducible rfl
            rotate_left
            · simp only [Act.put, List.setIfInBounds_toArray, List.set_cons_zero, List.set_cons_succ, i64_w, i32_w]
              rfl
            refine take_ (i := 5) (N := some 66) (v := ?_) (a' := ?_) #[true, true, true, true, true, true, false, false, false, false, false] rfl rfl (by kernel_rfl) (fun _ _ _ h => h) (Or.inl ⟨by rfl, ?_⟩) hHeld ?_ ?_
            rotate_left
            · rintro w' ⟨s0, s1, s2, s3, s4⟩
              go_simp
              with_reducible rfl
            rotate_left
            · simp only [Act.put, List.setIfInBounds_toArray, List.set_cons_zero, List.set_cons_succ, i64_w, i32_w]
              rfl
            refine one_ (i := 6) (N := some 67) #[true, true, true, true, true, true, true, false, false, false, false] rfl rfl (by kernel_rfl) (by decide) (fun K hK => ?_)
            refine value_ (w1 := ?_) (v := ?_) (by rfl) rfl ?_ ?_
            rotate_left 2
            · go_simp
              constructor
              · rfl
              · rfl
            refine hK.out _ _ ⟨blk_cell (HSd.out.bx.alloc _) 0, blk_cell (HYd.out.alloc _) 0, blk_cell (HYd.out.alloc _) 1, blk_cell (HYd.out.alloc _) 2, blk_cell (HYd.out.alloc _) 3⟩ (fun hHeld => ?_)
            clear hK K
            refine norm_ (a' := ?_) ?_ ?_
            rotate_left
            · show Act.put _ (some 67) _ = _
              simp only [Act.put, List.setIfInBounds_toArray, List.set_cons_zero, List.set_cons_succ, i64_w, i32_w]
              rfl
            refine one_ (i := 7) (N := some 68) #[true, true, true, true, true, true, true, true, false, false, false] rfl rfl (by kernel_rfl) (by decide) (fun K hK => ?_)
            refine Rd.append_step (W := w8.drew) (ok := fun j => S < j ∧ (if j < m then col j else 0) = 0) (okp := fun j => m + 1 ≤ j) (cs := [.string n, .bool true, .slice A9 l.length c9, .int .i64 at_]) (ds := Str.d (⟨n, true, l, at_⟩ : Str)) (l := s.ss.map Str.d) (by rfl) (.tmp 65) (.tmp 67) 27 (.agg #[.string ⟨#[]⟩, .bool false, .slice none 0 0, .int .i64 0]) 56 rfl Tryd.underlying27 info_Struct rfl (by decide) (by decide) rfl rfl HA1.out HC1.out (by simp [Str.d]) (fun k hk => ⟨by omega, if_neg (by omega)⟩) (fun k hk => ⟨⟨by omega, if_neg (by omega)⟩, fun e => by have := HOB.out _ e; omega⟩) (by simp [Value.oneCell']) (by rw [List.length_map]; omega) ?_
            intro u5 w82 h5 hg5 hat5
            obtain ⟨A7, c7, rfl⟩ : ∃ A c, u5 = .slice A (s.ss.length + 1) c := (by obtain ⟨A, c, h⟩ := h5.slice; exact ⟨A, c, by rw [h]; simp⟩)
            have HG2 := Lib.hid (grown_own HGd.out hg5 (fun k hk => by have := HOB.out _ hk; omega))
            have HR2 := Lib.hid (HRd.out.grown hg5 (fun k hk => by have := HOB.out _ hk; omega))
            have HB2 : Hid (Bx 31 w82 S _) := Lib.hid ((hg5.block _ (blk_lt HSd.out.bx) (fun e => by have := HOB.out _ e.symm; omega)).trans HSd.out.bx)
            have HZ2 : Hid (Bx 73 w82 E _) := Lib.hid ((hg5.block _ (blk_lt HSd.out.be) (fun e => by have := HOB.out _ e.symm; have := HSd.out.hE; omega)).trans HSd.out.be)
            have HY2 : Hid (Bx 41 w82 m _) := Lib.hid ((hg5.block _ (blk_lt HYd.out) (fun e => by have := HOB.out _ e.symm; omega)).trans HYd.out)
            have Hes2 := Lib.hid (HSd.out.hes.grown hg5 (fun k hk e => by have h8 := (HOB.out _ e).2.2; have h9 := hk.2.2; omega))
            have Hfs2 := Lib.hid (HSd.out.hfs.grown hg5 (fun k hk e => by have h8 := (HOB.out _ e).2.2; have h9 := hk.2.2; omega))
            have HA2 := Lib.hid h5
            clear h5 hg5 hat5
            refine hK.out _ _ ⟨blk_cell HB2.out 0, blk_cell HY2.out 0, blk_cell HY2.out 1, blk_cell HY2.out 2, blk_cell HY2.out 3⟩ (fun hHeld => ?_)
            clear hK K
            refine norm_ (a' := ?_) ?_ ?_
            rotate_left
            · show Act.put _ (some 68) _ = _
              simp only [Act.put, List.setIfInBounds_toArray, List.set_cons_zero, List.set_cons_succ, i64_w, i32_w]
              rfl
            refine pure_ (i := 8) (N := some 69) (v := ?_) (a' := ?_) #[true, true, true, true, true, true, true, true, true, false, false] rfl rfl (by kernel_rfl) (fun _ _ _ h => h) (Or.inl ⟨by rfl, ?_⟩) ?_ ?_
            rotate_left
            · intro w'
              go_simp
              with_reducible rfl
            rotate_left
            · simp only [Act.put, List.setIfInBounds_toArray, List.set_cons_zero, List.set_cons_succ, i64_w, i32_w]
              rfl
            refine pure_ (i := 9) (N := some 70) (v := ?_) (a' := ?_) #[true, true, true, true, true, true, true, true, true, true, false] rfl rfl (by kernel_rfl) (fun _ _ _ h => h) (Or.inl ⟨by rfl, ?_⟩) ?_ ?_
            rotate_left
            · intro w'
              go_simp
              with_reducible rfl
            rotate_left
            · simp only [Act.put, List.setIfInBounds_toArray, List.set_cons_zero, List.set_cons_succ, i64_w, i32_w]
              rfl
            refine last_ (i := 10) (N := none) #[true, true, true, true, true, true, true, true, true, true, true] rfl rfl (by kernel_rfl) (by decide) (fun K hK => ?_)
            have hfz := blk_frozen HB2.out 0
            have hcz : w82.cell? ⟨S, 0, none⟩ = some (.slice A1 s.ss.length c1) := blk_cell HB2.out 0
            refine skip_ (w1 := ?_) (by rfl) rfl ?_ ?_
            rotate_left
            · go_simp
              rfl
            refine hK.out _ _ ?_
            clear hK K
            refine done_ (by kernel_rfl) ?_
            clear hHeld hfz hcz
            have HG3 := Lib.hid (grown_set HG2.out (p := ⟨S, 0, none⟩) (by simp only; omega) (.slice A7 (s.ss.length + 1) c7))
            have HR3 := Lib.hid (HR2.out.far (p := ⟨S, 0, none⟩) (by simp only; omega) (.slice A7 (s.ss.length + 1) c7))
            have HB3 : Hid (Bx 31 (w82.setCell ⟨S, 0, none⟩ (.slice A7 (s.ss.length + 1) c7)) S #[.slice A7 (s.ss.length + 1) c7, .slice A2 s.es.length c2, .slice A3 s.fs.length c3]) := Lib.hid (by have h := HB2.out.set 0 (.slice A7 (s.ss.length + 1) c7); simpa using h)
            have Hes3 := Lib.hid (Hes2.out.far (p := ⟨S, 0, none⟩) (fun k hk => by have := hk.1; simp only; omega) (.slice A7 (s.ss.length + 1) c7))
            have Hfs3 := Lib.hid (Hfs2.out.far (p := ⟨S, 0, none⟩) (fun k hk => by have := hk.1; simp only; omega) (.slice A7 (s.ss.length + 1) c7))
            have HA3 := Lib.hid (HA2.out.far (p := ⟨S, 0, none⟩) (fun k hk => by have := hk.1; simp only; omega) (.slice A7 (s.ss.length + 1) c7))
            have HZ3 := Lib.hid (HZ2.out.far (p := ⟨S, 0, none⟩) (by have := HSd.out.hE; simp only; omega) (.slice A7 (s.ss.length + 1) c7))
            have HHE := Lib.hid HSd.out.hE
            clear HZ2 HG HR HS HY HGd HRd HSd HYd HOB HA1 HC1 HG2 HR2 HB2 HY2 HA2 Hes2 Hfs2 HL HLd
            generalize (w82.setCell ⟨S, 0, none⟩ (.slice A7 (s.ss.length + 1) c7)) = w93 at *
            go_wp2_with fail
            go_end0
            exact .inr ⟨HG3.out, _, _, HPF.out, rfl, SrcAt.add_ss (A1 := A1) (A2 := A2) (A3 := A3) (c1 := c1) (c2 := c2) (c3 := c3) HB3.out HHE.out HZ3.out Hes3.out Hfs3.out HA3.out, HR3.out⟩
          · go_wp2_with fail
            exact ⟨rfl, .inl ⟨World.grownBy.trans HG.out hg, ⟨_, _, _, _, _, _, _, _, HS.out.kept hg hRS⟩, er, at9, (by rw [HIT.out]; exact Ps.bd_err (by rw [structP, Ps.bd_ok HP2.out, Ps.bd_ok HP3.out, Ps.bd_ok HP4.out]; exact Ps.bd_err hp)), rfl⟩⟩
        · go_wp2_with fail
          exact ⟨rfl, .inl ⟨World.grownBy.trans HG.out hg, ⟨_, _, _, _, _, _, _, _, HS.out.kept hg hRS⟩, er, at9, (by rw [HIT.out]; exact Ps.bd_err (by rw [structP, Ps.bd_ok HP2.out, Ps.bd_ok HP3.out]; exact Ps.bd_err hp)), rfl⟩⟩
      · go_wp2_with fail
        exact ⟨rfl, .inl ⟨World.grownBy.trans HG.out hg, ⟨_, _, _, _, _, _, _, _, HS.out.kept hg hRS⟩, er, at9, (by rw [HIT.out]; exact Ps.bd_err (by rw [structP, Ps.bd_ok HP2.out]; exact Ps.bd_err hp)), rfl⟩⟩
    · go_wp2_with fail
      exact ⟨rfl, .inl ⟨World.grownBy.trans HG.out hg, ⟨_, _, _, _, _, _, _, _, HS.out.kept hg hRS⟩, er, at9, (by rw [HIT.out]; exact Ps.bd_err (by rw [structP]; exact Ps.bd_err hp)), rfl⟩⟩
  · skip
    have HW1 := Lib.hid hw
    clear hw
    have HG_ := Lib.hid (World.grownBy.trans HG.out hg)
    have HR_ := Lib.hid hr
    have HS_ := Lib.hid (HS.out.kept hg (by omega))
    clear hg hr HG HR HS
    have HG := HG_
    have HR := HR_
    have HS := HS_
    clear HG_ HR_ HS_
    have HNW : Hid ((w2.alloc (.cells #[.string ⟨#[115, 116, 114, 117, 99, 116]⟩] 9)).cell? ⟨w2.heap.size, 0, none⟩ = some (.string ⟨#[115, 116, 114, 117, 99, 116]⟩)) := Lib.hid (blk_cell (heap_alloc_new w2 _) 0)
    have HRn := Lib.hid (HR.out.below (bel_one HR.out.lt (.cells #[.string ⟨#[115, 116, 114, 117, 99, 116]⟩] 9)) (by omega))
    have HBn := Lib.hid ((Below.refl w2.heap.size w2).alloc (Nat.le_refl _) (.cells #[.string ⟨#[115, 116, 114, 117, 99, 116]⟩] 9))
    go_wp2_with fail
    refine (is_rd HRn.out ⟨#[115, 116, 114, 117, 99, 116]⟩ HNW.out (by simp)).mono ?_
    rintro e w9 ⟨rfl, hb1⟩
    have hb := HBn.out.trans (hb1.mono (by simp))
    clear hb1 HNW HRn HBn
    have HG_ := Lib.hid (grown_then HG.out hb HG.out.size)
    have HR_ := Lib.hid (HR.out.below hb HR.out.lt)
    have HS_ := Lib.hid (HS.out.bel hb)
    clear hb HG HR HS
    have HG := HG_
    have HR := HR_
    have HS := HS_
    clear HG_ HR_ HS_
    cases hw2 : isW (⟨#[115, 116, 114, 117, 99, 116]⟩ : ByteArray) ts with
    | true =>
      have HIT : Hid (itemP s ts = ((structP false at_).bd fun x => .ret { s with ss := s.ss ++ [x] }) ts) := Lib.hid (by rw [item_struct HW1.out hw2, ← HAT.out])
      clear hw2 HW1
      go_wp2_with fail
      refine (must_rd HR.out ⟨#[115, 116, 114, 117, 99, 116]⟩).mono ?_
      rintro e w10 ⟨hg, ⟨⟨⟩, u1, v, hp, rfl, rfl, hr, hle⟩ | ⟨er, at9, hp, rfl⟩⟩
      · skip
        have HP6 := Lib.hid hp
        have HLE6 := Lib.hid hle
        clear hp hle
        have HG_ := Lib.hid (World.grownBy.trans HG.out hg)
        have HR_ := Lib.hid hr
        have HS_ := Lib.hid (HS.out.kept hg (by omega))
        clear hg hr HG HR HS
        have HG := HG_
        have HR := HR_
        have HS := HS_
        clear HG_ HR_ HS_
        go_wp2_with fail
        refine (name_rd HR.out true).mono ?_
        rintro e w11 ⟨hg, ⟨n, u2, v, hp, rfl, rfl, hr, hle⟩ | ⟨er, at9, hp, rfl⟩⟩
        · skip
          have HP7 := Lib.hid hp
          have HLE7 := Lib.hid hle
          clear hp hle
          have HG_ := Lib.hid (World.grownBy.trans HG.out hg)
          have HR_ := Lib.hid hr
          have HS_ := Lib.hid (HS.out.kept hg (by omega))
          clear hg hr HG HR HS
          have HG := HG_
          have HR := HR_
          have HS := HS_
          clear HG_ HR_ HS_
          have HS_ := Lib.hid HS.out.bound
          clear HS
          have HS := HS_
          clear HS_
          have hSm : S < w11.heap.size := blk_lt HS.out.bx
          have hlm : W.heap.size ≤ w11.heap.size := HG.out.size
          have HG_ := Lib.hid (grown_alloc HG.out (.cells #[.string n, .bool false, .slice none 0 0, .int .i64 at_] 41))
          have HR_ := Lib.hid (HR.out.below (bel_one HR.out.lt (.cells #[.string n, .bool false, .slice none 0 0, .int .i64 at_] 41)) (by omega))
          have HS_ := Lib.hid (HS.out.bel ((Below.refl _ _).alloc (Nat.le_refl _) (.cells #[.string n, .bool false, .slice none 0 0, .int .i64 at_] 41)))
          have HY_ : Hid (Bx 41 (w11.alloc (.cells #[.string n, .bool false, .slice none 0 0, .int .i64 at_] 41)) w11.heap.size #[.string n, .bool false, .slice none 0 0, .int .i64 at_]) := Lib.hid (.newAt rfl)
          clear HG HR HS
          have HG := HG_
          have HR := HR_
          have HS := HS_
          clear HG_ HR_ HS_
          have HY := HY_
          clear HY_
          go_wp2_with (first
            | (with_reducible refine wpList_store_row (o := ⟨none, .store 41 (.tmp 6) (.tmp 53), _, _, _, _⟩) rfl 41 _ _ rfl (w11.heap.size) #[.string n, .bool false, .slice none 0 0, .int .i64 at_] rfl rfl 41 #[.string ⟨#[]⟩, .bool false, .slice none 0 0, .int .i64 0] (heap_alloc_new w11 _) (by kernel_rfl) (by kernel_rfl) (by kernel_rfl) ?_
               rw [World.setRow_alloc_new]))
          generalize w11.alloc (.cells #[.string n, .bool false, .slice none 0 0, .int .i64 at_] 41) = w12 at *
          generalize w11.heap.size = m at *
          refine (must_rd HR.out ⟨#[123]⟩).mono ?_
          rintro e w13 ⟨hg, ⟨⟨⟩, u3, v, hp, rfl, rfl, hr, hle⟩ | ⟨er, at9, hp, rfl⟩⟩
          · skip
            have HP8 := Lib.hid hp
            have HLE8 := Lib.hid hle
            clear hp hle
            have HG_ := Lib.hid (World.grownBy.trans HG.out hg)
            have HR_ := Lib.hid hr
            have HY_ := Lib.hid (HY.out.kept hg (by omega))
            have HS_ := Lib.hid (HS.out.kept hg (by omega))
            clear hg hr HG HR HY HS
            have HG := HG_
            have HR := HR_
            have HY := HY_
            have HS := HS_
            clear HG_ HR_ HY_ HS_
            go_wp2_with fail
            refine (list_Field HR.out ⟨#[125]⟩).mono ?_
            rintro e w14 ⟨hg, ⟨l, u4, v, hp, rfl, hv, hr, hle⟩ | ⟨er, at9, hp, rfl⟩⟩
            · skip
              obtain ⟨A9, c9, rfl⟩ := hv.slice
              rw [List.length_map] at hv ⊢
              have hm3 := blk_lt HY.out
              have HL := Lib.hid (hv.low (m := m + 1) (by omega))
              clear hv hm3
              have HP9 := Lib.hid hp
              have HLE9 := Lib.hid hle
              clear hp hle
              have HG_ := Lib.hid (World.grownBy.trans HG.out hg)
              have HR_ := Lib.hid hr
              have HY_ := Lib.hid (HY.out.kept hg (by omega))
              have HS_ := Lib.hid (HS.out.kept hg (by omega))
              clear hg hr HG HR HY HS
              have HG := HG_
              have HR := HR_
              have HY := HY_
              have HS := HS_
              clear HG_ HR_ HY_ HS_
              obtain ⟨lHY, cHY, fHY⟩ := HY.out.see
              have HPUT := Lib.hid (Put.set (Put.refl m (m + 1) w14) (p := ⟨m, 2, none⟩) (by simp only; omega) (by simp only; omega) (.slice A9 l.length c9))
              have HG_ := Lib.hid (HPUT.out.grown HG.out (by omega))
              have HR_ := Lib.hid (HR.out.put HPUT.out (by omega))
              have HY_ : Hid (Bx 41 (w14.setCell ⟨m, 2, none⟩ (.slice A9 l.length c9)) m #[.string n, .bool false, .slice A9 l.length c9, .int .i64 at_]) := Lib.hid (by have h := HY.out.set 2 (.slice A9 l.length c9); simpa using h)
              have HS_ := Lib.hid (HS.out.put HPUT.out hSm (Nat.le_refl _))
              have HL_ := Lib.hid (HL.out.put HPUT.out (Nat.le_refl _))
              clear HPUT HG HR HY HS HL
              have HG := HG_
              have HR := HR_
              have HY := HY_
              have HS := HS_
              have HL := HL_
              clear HG_ HR_ HY_ HS_ HL_
              go_wp2_with fail
              clear lHY cHY fHY
              generalize (w14.setCell ⟨m, 2, none⟩ (.slice A9 l.length c9)) = w15 at *
              have HPF : Hid (itemP s ts = .ok ({ s with ss := s.ss ++ [(⟨n, false, l, at_⟩ : Str)] }, u4)) := Lib.hid (by rw [HIT.out, Ps.bd_ok (show _ = Except.ok ((⟨n, false, l, at_⟩ : Str), u4) from by rw [structP, Ps.bd_ok HP6.out, Ps.bd_ok HP7.out, Ps.bd_ok HP8.out, Ps.bd_ok HP9.out]; exact rfl)]; exact rfl)
              have HGd := Lib.hid (grown_then HG.out (bel_drew (Below.refl w15.heap.size w15)) HG.out.size)
              have HRd := Lib.hid (HR.out.below (bel_drew (Below.refl w15.heap.size w15)) HR.out.lt)
              have HSd := Lib.hid (HS.out.bel (bel_drew (Below.refl w15.heap.size w15)))
              have HYd := Lib.hid (HY.out.drew)
              have HLd := Lib.hid (HL.out.bel (bel_drew (Below.refl w15.heap.size w15)))
              have hm9 : m < w15.drew.heap.size := blk_lt HYd.out
              have HOB : Hid (∀ k, (Value.slice A1 s.ss.length c1).ownBlock = some k → S < k ∧ k < m ∧ col k = 0) := Lib.hid (fun k hk => by obtain ⟨xs, ho, h1⟩ := HSd.out.hss.owns; exact h1 k hk)
              have HA1 := Lib.hid (HSd.out.hss.mono (ok' := fun j => S < j ∧ (if j < m then col j else 0) = 0) (fun k hk => ⟨hk.1, by rw [if_pos hk.2.1]; exact hk.2.2⟩))
              have HC1 : Hid (Rds w15.drew (fun j => m + 1 ≤ j) [.string n, .bool false, .slice A9 l.length c9, .int .i64 at_] (Str.d (⟨n, false, l, at_⟩ : Str))) := Lib.hid (by simp only [Str.d]; exact ⟨.v _, .v _, HLd.out, .v _, trivial⟩)
              refine start_ (n := 11) (S := fun w' => w'.cell? ⟨S, 0, none⟩ = some (.slice A1 s.ss.length c1) ∧ w'.cell? ⟨m, 0, none⟩ = some (.string n) ∧ w'.cell? ⟨m, 1, none⟩ = some (.bool false) ∧ w'.cell? ⟨m, 2, none⟩ = some (.slice A9 l.length c9) ∧ w'.cell? ⟨m, 3, none⟩ = some (.int .i64 at_)) (ds := [10]) #[false, false, false, false, false, false, false, false, false, false, false] (by kernel_rfl) rfl rfl ⟨blk_cell HSd.out.bx 0, blk_cell HYd.out 0, blk_cell HYd.out 1, blk_cell HYd.out 2, blk_cell HYd.out 3⟩ (fun hHeld => ?_)
              refine pure_ (i := 0) (N := some 61) (v := ?_) (a' := ?_) #[true, false, false, false, false, false, false, false, false, false, false] rfl rfl (by kernel_rfl) (fun _ _ _ h => h) (Or.inl ⟨by rfl, ?_⟩) ?_ ?_
              rotate_left
              · intro w'
                go_simp
                with_reducible rfl
              rotate_left
              · simp only [Act.put, List.setIfInBounds_toArray, List.set_cons_zero, List.set_cons_succ, i64_w, i32_w]
                rfl
              refine pure_ (i := 1) (N := some 62) (v := ?_) (a' := ?_) #[true, true, false, false, false, false, false, false, false, false, false] rfl rfl (by kernel_rfl) (fun _ _ _ h => h) (Or.inl ⟨by rfl, ?_⟩) ?_ ?_
              rotate_left
              · intro w'
                go_simp
                with_reducible rfl
              rotate_left
              · simp only [Act.put, List.setIfInBounds_toArray, List.set_cons_zero, List.set_cons_succ, i64_w, i32_w]
                rfl
              refine pure_ (i := 2) (N := some 63) (v := ?_) (a' := ?_) #[true, true, true, false, false, false, false, false, false, false, false] rfl rfl (by kernel_rfl) (fun _ _ _ h => h) (Or.inl ⟨by rfl, ?_⟩) ?_ ?_
              rotate_left
              · intro w'
                go_simp
                with_reducible rfl
              rotate_left
              · simp only [Act.put, List.setIfInBounds_toArray, List.set_cons_zero, List.set_cons_succ, i64_w, i32_w]
                rfl
              refine pure_ (i := 3) (N := some 64) (v := ?_) (a' := ?_) #[true, true, true, true, false, false, false, false, false, false, false] rfl rfl (by kernel_rfl) (fun _ _ _ h => h) (Or.inl ⟨by rfl, ?_⟩) ?_ ?_
              rotate_left
              · intro w'
                go_simp
                with_reducible rfl
              rotate_left
              · simp only [Act.put, List.setIfInBounds_toArray, List.set_cons_zero, List.set_cons_succ, i64_w, i32_w]
                rfl
              refine take_ (i := 4) (N := some 65) (v := ?_) (a' := ?_) #[true, true, true, true, true, false, false, false, false, false, false] rfl rfl (by kernel_rfl) (fun _ _ _ h => h) (Or.inl ⟨by rfl, ?_⟩) hHeld ?_ ?_
              rotate_left
              · rintro w' ⟨s0, s1, s2, s3, s4⟩
                go_simp
                with_reducible rfl
              rotate_left
              · simp only [Act.put, List.setIfInBounds_toArray, List.set_cons_zero, List.set_cons_succ, i64_w, i32_w]
                rfl
              refine take_ (i := 5) (N := some 66) (v := ?_) (a' := ?_) #[true, true, true, true, true, true, false, false, false, false, false] rfl rfl (by kernel_rfl) (fun _ _ _ h => h) (Or.inl ⟨by rfl, ?_⟩) hHeld ?_ ?_
              rotate_left
              · rintro w' ⟨s0, s1, s2, s3, s4⟩
                go_simp
                with_reducible rfl
              rotate_left
              · simp only [Act.put, List.setIfInBounds_toArray, List.set_cons_zero, List.set_cons_succ, i64_w, i32_w]
                rfl
              refine one_ (i := 6) (N := some 67) #[true, true, true, true, true, true, true, false, false, false, false] rfl rfl (by kernel_rfl) (by decide) (fun K hK => ?_)
              refine value_ (w1 := ?_) (v := ?_) (by rfl) rfl ?_ ?_
              rotate_left 2
              · go_simp
                constructor
                · rfl
                · rfl
              refine hK.out _ _ ⟨blk_cell (HSd.out.bx.alloc _) 0, blk_cell (HYd.out.alloc _) 0, blk_cell (HYd.out.alloc _) 1, blk_cell (HYd.out.alloc _) 2, blk_cell (HYd.out.alloc _) 3⟩ (fun hHeld => ?_)
              clear hK K
              refine norm_ (a' := ?_) ?_ ?_
              rotate_left
              · show Act.put _ (some 67) _ = _
                simp only [Act.put, List.setIfInBounds_toArray, List.set_cons_zero, List.set_cons_succ, i64_w, i32_w]
                rfl
              refine one_ (i := 7) (N := some 68) #[true, true, true, true, true, true, true, true, false, false, false] rfl rfl (by kernel_rfl) (by decide) (fun K hK => ?_)
              refine Rd.append_step (W := w15.drew) (ok := fun j => S < j ∧ (if j < m then col j else 0) = 0) (okp := fun j => m + 1 ≤ j) (cs := [.string n, .bool false, .slice A9 l.length c9, .int .i64 at_]) (ds := Str.d (⟨n, false, l, at_⟩ : Str)) (l := s.ss.map Str.d) (by rfl) (.tmp 65) (.tmp 67) 27 (.agg #[.string ⟨#[]⟩, .bool false, .slice none 0 0, .int .i64 0]) 56 rfl Tryd.underlying27 info_Struct rfl (by decide) (by decide) rfl rfl HA1.out HC1.out (by simp [Str.d]) (fun k hk => ⟨by omega, if_neg (by omega)⟩) (fun k hk => ⟨⟨by omega, if_neg (by omega)⟩, fun e => by have := HOB.out _ e; omega⟩) (by simp [Value.oneCell']) (by rw [List.length_map]; omega) ?_
              intro u5 w82 h5 hg5 hat5
              obtain ⟨A7, c7, rfl⟩ : ∃ A c, u5 = .slice A (s.ss.length + 1) c := (by obtain ⟨A, c, h⟩ := h5.slice; exact ⟨A, c, by rw [h]; simp⟩)
              have HG2 := Lib.hid (grown_own HGd.out hg5 (fun k hk => by have := HOB.out _ hk; omega))
              have HR2 := Lib.hid (HRd.out.grown hg5 (fun k hk => by have := HOB.out _ hk; omega))
              have HB2 : Hid (Bx 31 w82 S _) := Lib.hid ((hg5.block _ (blk_lt HSd.out.bx) (fun e => by have := HOB.out _ e.symm; omega)).trans HSd.out.bx)
              have HZ2 : Hid (Bx 73 w82 E _) := Lib.hid ((hg5.block _ (blk_lt HSd.out.be) (fun e => by have := HOB.out _ e.symm; have := HSd.out.hE; omega)).trans HSd.out.be)
              have HY2 : Hid (Bx 41 w82 m _) := Lib.hid ((hg5.block _ (blk_lt HYd.out) (fun e => by have := HOB.out _ e.symm; omega)).trans HYd.out)
              have Hes2 := Lib.hid (HSd.out.hes.grown hg5 (fun k hk e => by have h8 := (HOB.out _ e).2.2; have h9 := hk.2.2; omega))
              have Hfs2 := Lib.hid (HSd.out.hfs.grown hg5 (fun k hk e => by have h8 := (HOB.out _ e).2.2; have h9 := hk.2.2; omega))
              have HA2 := Lib.hid h5
              clear h5 hg5 hat5
              refine hK.out _ _ ⟨blk_cell HB2.out 0, blk_cell HY2.out 0, blk_cell HY2.out 1, blk_cell HY2.out 2, blk_cell HY2.out 3⟩ (fun hHeld => ?_)
              clear hK K
              refine norm_ (a' := ?_) ?_ ?_
              rotate_left
              · show Act.put _ (some 68) _ = _
                simp only [Act.put, List.setIfInBounds_toArray, List.set_cons_zero, List.set_cons_succ, i64_w, i32_w]
                rfl
              refine pure_ (i := 8) (N := some 69) (v := ?_) (a' := ?_) #[true, true, true, true, true, true, true, true, true, false, false] rfl rfl (by kernel_rfl) (fun _ _ _ h => h) (Or.inl ⟨by rfl, ?_⟩) ?_ ?_
              rotate_left
              · intro w'
                go_simp
                with_reducible rfl
              rotate_left
              · simp only [Act.put, List.setIfInBounds_toArray, List.set_cons_zero, List.set_cons_succ, i64_w, i32_w]
                rfl
              refine pure_ (i := 9) (N := some 70) (v := ?_) (a' := ?_) #[true, true, true, true, true, true, true, true, true, true, false] rfl rfl (by kernel_rfl) (fun _ _ _ h => h) (Or.inl ⟨by rfl, ?_⟩) ?_ ?_
              rotate_left
              · intro w'
                go_simp
                with_reducible rfl
              rotate_left
              · simp only [Act.put, List.setIfInBounds_toArray, List.set_cons_zero, List.set_cons_succ, i64_w, i32_w]
                rfl
              refine last_ (i := 10) (N := none) #[true, true, true, true, true, true, true, true, true, true, true] rfl rfl (by kernel_rfl) (by decide) (fun K hK => ?_)
              have hfz := blk_frozen HB2.out 0
              have hcz : w82.cell? ⟨S, 0, none⟩ = some (.slice A1 s.ss.length c1) := blk_cell HB2.out 0
              refine skip_ (w1 := ?_) (by rfl) rfl ?_ ?_
              rotate_left
              · go_simp
                rfl
              refine hK.out _ _ ?_
              clear hK K
              refine done_ (by kernel_rfl) ?_
              clear hHeld hfz hcz
              have HG3 := Lib.hid (grown_set HG2.out (p := ⟨S, 0, none⟩) (by simp only; omega) (.slice A7 (s.ss.length + 1) c7))
              have HR3 := Lib.hid (HR2.out.far (p := ⟨S, 0, none⟩) (by simp only; omega) (.slice A7 (s.ss.length + 1) c7))
              have HB3 : Hid (Bx 31 (w82.setCell ⟨S, 0, none⟩ (.slice A7 (s.ss.length + 1) c7)) S #[.slice A7 (s.ss.length + 1) c7, .slice A2 s.es.length c2, .slice A3 s.fs.length c3]) := Lib.hid (by have h := HB2.out.set 0 (.slice A7 (s.ss.length + 1) c7); simpa using h)
              have Hes3 := Lib.hid (Hes2.out.far (p := ⟨S, 0, none⟩) (fun k hk => by have := hk.1; simp only; omega) (.slice A7 (s.ss.length + 1) c7))
              have Hfs3 := Lib.hid (Hfs2.out.far (p := ⟨S, 0, none⟩) (fun k hk => by have := hk.1; simp only; omega) (.slice A7 (s.ss.length + 1) c7))
              have HA3 := Lib.hid (HA2.out.far (p := ⟨S, 0, none⟩) (fun k hk => by have := hk.1; simp only; omega) (.slice A7 (s.ss.length + 1) c7))
              have HZ3 := Lib.hid (HZ2.out.far (p := ⟨S, 0, none⟩) (by have := HSd.out.hE; simp only; omega) (.slice A7 (s.ss.length + 1) c7))
              have HHE := Lib.hid HSd.out.hE
              clear HZ2 HG HR HS HY HGd HRd HSd HYd HOB HA1 HC1 HG2 HR2 HB2 HY2 HA2 Hes2 Hfs2 HL HLd
              generalize (w82.setCell ⟨S, 0, none⟩ (.slice A7 (s.ss.length + 1) c7)) = w93 at *
              go_wp2_with fail
              go_end0
              exact .inr ⟨HG3.out, _, _, HPF.out, rfl, SrcAt.add_ss (A1 := A1) (A2 := A2) (A3 := A3) (c1 := c1) (c2 := c2) (c3 := c3) HB3.out HHE.out HZ3.out Hes3.out Hfs3.out HA3.out, HR3.out⟩
            · go_wp2_with fail
              exact ⟨rfl, .inl ⟨World.grownBy.trans HG.out hg, ⟨_, _, _, _, _, _, _, _, HS.out.kept hg hRS⟩, er, at9, (by rw [HIT.out]; exact Ps.bd_err (by rw [structP, Ps.bd_ok HP6.out, Ps.bd_ok HP7.out, Ps.bd_ok HP8.out]; exact Ps.bd_err hp)), rfl⟩⟩
          · go_wp2_with fail
            exact ⟨rfl, .inl ⟨World.grownBy.trans HG.out hg, ⟨_, _, _, _, _, _, _, _, HS.out.kept hg hRS⟩, er, at9, (by rw [HIT.out]; exact Ps.bd_err (by rw [structP, Ps.bd_ok HP6.out, Ps.bd_ok HP7.out]; exact Ps.bd_err hp)), rfl⟩⟩
        · go_wp2_with fail
          exact ⟨rfl, .inl ⟨World.grownBy.trans HG.out hg, ⟨_, _, _, _, _, _, _, _, HS.out.kept hg hRS⟩, er, at9, (by rw [HIT.out]; exact Ps.bd_err (by rw [structP, Ps.bd_ok HP6.out]; exact Ps.bd_err hp)), rfl⟩⟩
      · go_wp2_with fail
        exact ⟨rfl, .inl ⟨World.grownBy.trans HG.out hg, ⟨_, _, _, _, _, _, _, _, HS.out.kept hg hRS⟩, er, at9, (by rw [HIT.out]; exact Ps.bd_err (by rw [structP]; exact Ps.bd_err hp)), rfl⟩⟩
    | false =>
      have HW2 := Lib.hid hw2
      clear hw2
      go_wp2_with fail
      refine (opt_rd HR.out ⟨#[101, 110, 117, 109]⟩).mono ?_
      rintro e w16 ⟨hg, ⟨hw, rfl, hr⟩ | ⟨hw, rfl, hr⟩⟩
      · skip
        have HIT : Hid (itemP s ts = ((enumP at_).bd fun x => .ret { s with es := s.es ++ [x] }) ts.tail) := Lib.hid (by rw [item_enum HW1.out HW2.out hw, ← HAT.out])
        clear hw HW1 HW2
        have HG_ := Lib.hid (World.grownBy.trans HG.out hg)
        have HR_ := Lib.hid hr
        have HS_ := Lib.hid (HS.out.kept hg (by omega))
        clear hg hr HG HR HS
        have HG := HG_
        have HR := HR_
        have HS := HS_
        clear HG_ HR_ HS_
        go_wp2_with fail
        refine (name_rd HR.out true).mono ?_
        rintro e w17 ⟨hg, ⟨n, u2, v, hp, rfl, rfl, hr, hle⟩ | ⟨er, at9, hp, rfl⟩⟩
        · skip
          have HP11 := Lib.hid hp
          have HLE11 := Lib.hid hle
          clear hp hle
          have HG_ := Lib.hid (World.grownBy.trans HG.out hg)
          have HR_ := Lib.hid hr
          have HS_ := Lib.hid (HS.out.kept hg (by omega))
          clear hg hr HG HR HS
          have HG := HG_
          have HR := HR_
          have HS := HS_
          clear HG_ HR_ HS_
          have HS_ := Lib.hid HS.out.bound
          clear HS
          have HS := HS_
          clear HS_
          have hSm : S < w17.heap.size := blk_lt HS.out.bx
          have hlm : W.heap.size ≤ w17.heap.size := HG.out.size
          have HG_ := Lib.hid (grown_alloc HG.out (.cells #[.string n, .slice none 0 0, .int .i64 at_] 44))
          have HR_ := Lib.hid (HR.out.below (bel_one HR.out.lt (.cells #[.string n, .slice none 0 0, .int .i64 at_] 44)) (by omega))
          have HS_ := Lib.hid (HS.out.bel ((Below.refl _ _).alloc (Nat.le_refl _) (.cells #[.string n, .slice none 0 0, .int .i64 at_] 44)))
          have HY_ : Hid (Bx 44 (w17.alloc (.cells #[.string n, .slice none 0 0, .int .i64 at_] 44)) w17.heap.size #[.string n, .slice none 0 0, .int .i64 at_]) := Lib.hid (.newAt rfl)
          clear HG HR HS
          have HG := HG_
          have HR := HR_
          have HS := HS_
          clear HG_ HR_ HS_
          have HY := HY_
          clear HY_
          go_wp2_with (first
            | (with_reducible refine wpList_store_row (o := ⟨none, .store 44 (.tmp 7) (.tmp 77), _, _, _, _⟩) rfl 44 _ _ rfl (w17.heap.size) #[.string n, .slice none 0 0, .int .i64 at_] rfl rfl 44 #[.string ⟨#[]⟩, .slice none 0 0, .int .i64 0] (heap_alloc_new w17 _) (by kernel_rfl) (by kernel_rfl) (by kernel_rfl) ?_
               rw [World.setRow_alloc_new]))
          generalize w17.alloc (.cells #[.string n, .slice none 0 0, .int .i64 at_] 44) = w18 at *
          generalize w17.heap.size = m at *
          refine (must_rd HR.out ⟨#[123]⟩).mono ?_
          rintro e w19 ⟨hg, ⟨⟨⟩, u3, v, hp, rfl, rfl, hr, hle⟩ | ⟨er, at9, hp, rfl⟩⟩
          · skip
            have HP12 := Lib.hid hp
            have HLE12 := Lib.hid hle
            clear hp hle
            have HG_ := Lib.hid (World.grownBy.trans HG.out hg)
            have HR_ := Lib.hid hr
            have HY_ := Lib.hid (HY.out.kept hg (by omega))
            have HS_ := Lib.hid (HS.out.kept hg (by omega))
            clear hg hr HG HR HY HS
            have HG := HG_
            have HR := HR_
            have HY := HY_
            have HS := HS_
            clear HG_ HR_ HY_ HS_
            go_wp2_with fail
            refine (list_Variant HR.out ⟨#[125]⟩).mono ?_
            rintro e w20 ⟨hg, ⟨l, u4, v, hp, rfl, hv, hr, hle⟩ | ⟨er, at9, hp, rfl⟩⟩
            · skip
              obtain ⟨A9, c9, rfl⟩ := hv.slice
              rw [List.length_map] at hv ⊢
              have hm3 := blk_lt HY.out
              have HL := Lib.hid (hv.low (m := m + 1) (by omega))
              clear hv hm3
              have HP13 := Lib.hid hp
              have HLE13 := Lib.hid hle
              clear hp hle
              have HG_ := Lib.hid (World.grownBy.trans HG.out hg)
              have HR_ := Lib.hid hr
              have HY_ := Lib.hid (HY.out.kept hg (by omega))
              have HS_ := Lib.hid (HS.out.kept hg (by omega))
              clear hg hr HG HR HY HS
              have HG := HG_
              have HR := HR_
              have HY := HY_
              have HS := HS_
              clear HG_ HR_ HY_ HS_
              obtain ⟨lHY, cHY, fHY⟩ := HY.out.see
              have HPUT := Lib.hid (Put.set (Put.refl m (m + 1) w20) (p := ⟨m, 1, none⟩) (by simp only; omega) (by simp only; omega) (.slice A9 l.length c9))
              have HG_ := Lib.hid (HPUT.out.grown HG.out (by omega))
              have HR_ := Lib.hid (HR.out.put HPUT.out (by omega))
              have HY_ : Hid (Bx 44 (w20.setCell ⟨m, 1, none⟩ (.slice A9 l.length c9)) m #[.string n, .slice A9 l.length c9, .int .i64 at_]) := Lib.hid (by have h := HY.out.set 1 (.slice A9 l.length c9); simpa using h)
              have HS_ := Lib.hid (HS.out.put HPUT.out hSm (Nat.le_refl _))
              have HL_ := Lib.hid (HL.out.put HPUT.out (Nat.le_refl _))
              clear HPUT HG HR HY HS HL
              have HG := HG_
              have HR := HR_
              have HY := HY_
              have HS := HS_
              have HL := HL_
              clear HG_ HR_ HY_ HS_ HL_
              go_wp2_with fail
              clear lHY cHY fHY
              generalize (w20.setCell ⟨m, 1, none⟩ (.slice A9 l.length c9)) = w21 at *
              have HPF : Hid (itemP s ts = .ok ({ s with es := s.es ++ [(⟨n, l, at_⟩ : Enm)] }, u4)) := Lib.hid (by rw [HIT.out, Ps.bd_ok (show _ = Except.ok ((⟨n, l, at_⟩ : Enm), u4) from by rw [enumP, Ps.bd_ok HP11.out, Ps.bd_ok HP12.out, Ps.bd_ok HP13.out]; exact rfl)]; exact rfl)
              have HGd := Lib.hid (grown_then HG.out (bel_drew (Below.refl w21.heap.size w21)) HG.out.size)
              have HRd := Lib.hid (HR.out.below (bel_drew (Below.refl w21.heap.size w21)) HR.out.lt)
              have HSd := Lib.hid (HS.out.bel (bel_drew (Below.refl w21.heap.size w21)))
              have HYd := Lib.hid (HY.out.drew)
              have HLd := Lib.hid (HL.out.bel (bel_drew (Below.refl w21.heap.size w21)))
              have hm9 : m < w21.drew.heap.size := blk_lt HYd.out
              have HOB : Hid (∀ k, (Value.slice A2 s.es.length c2).ownBlock = some k → S < k ∧ k < m ∧ col k = 1) := Lib.hid (fun k hk => by obtain ⟨xs, ho, h1⟩ := HSd.out.hes.owns; exact h1 k hk)
              have HA1 := Lib.hid (HSd.out.hes.mono (ok' := fun j => S < j ∧ (if j < m then col j else 1) = 1) (fun k hk => ⟨hk.1, by rw [if_pos hk.2.1]; exact hk.2.2⟩))
              have HC1 : Hid (Rds w21.drew (fun j => m + 1 ≤ j) [.string n, .slice A9 l.length c9, .int .i64 at_] (Enm.d (⟨n, l, at_⟩ : Enm))) := Lib.hid (by simp only [Enm.d]; exact ⟨.v _, HLd.out, .v _, trivial⟩)
              refine start_ (n := 11) (S := fun w' => w'.cell? ⟨S, 1, none⟩ = some (.slice A2 s.es.length c2) ∧ w'.cell? ⟨m, 0, none⟩ = some (.string n) ∧ w'.cell? ⟨m, 1, none⟩ = some (.slice A9 l.length c9) ∧ w'.cell? ⟨m, 2, none⟩ = some (.int .i64 at_)) (ds := [10]) #[false, false, false, false, false, false, false, false, false, false, false] (by kernel_rfl) rfl rfl ⟨blk_cell HSd.out.bx 1, blk_cell HYd.out 0, blk_cell HYd.out 1, blk_cell HYd.out 2⟩ (fun hHeld => ?_)
              refine pure_ (i := 0) (N := some 85) (v := ?_) (a' := ?_) #[true, false, false, false, false, false, false, false, false, false, false] rfl rfl (by kernel_rfl) (fun _ _ _ h => h) (Or.inl ⟨by rfl, ?_⟩) ?_ ?_
              rotate_left
              · intro w'
                go_simp
                with_reducible rfl
              rotate_left
              · simp only [Act.put, List.setIfInBounds_toArray, List.set_cons_zero, List.set_cons_succ, i64_w, i32_w]
                rfl
              refine pure_ (i := 1) (N := some 86) (v := ?_) (a' := ?_) #[true, true, false, false, false, false, false, false, false, false, false] rfl rfl (by kernel_rfl) (fun _ _ _ h => h) (Or.inl ⟨by rfl, ?_⟩) ?_ ?_
              rotate_left
              · intro w'
                go_simp
                with_reducible rfl
              rotate_left
              · simp only [Act.put, List.setIfInBounds_toArray, List.set_cons_zero, List.set_cons_succ, i64_w, i32_w]
                rfl
              refine pure_ (i := 2) (N := some 87) (v := ?_) (a' := ?_) #[true, true, true, false, false, false, false, false, false, false, false] rfl rfl (by kernel_rfl) (fun _ _ _ h => h) (Or.inl ⟨by rfl, ?_⟩) ?_ ?_
              rotate_left
              · intro w'
                go_simp
                with_reducible rfl
              rotate_left
              · simp only [Act.put, List.setIfInBounds_toArray, List.set_cons_zero, List.set_cons_succ, i64_w, i32_w]
                rfl
              refine pure_ (i := 3) (N := some 88) (v := ?_) (a' := ?_) #[true, true, true, true, false, false, false, false, false, false, false] rfl rfl (by kernel_rfl) (fun _ _ _ h => h) (Or.inl ⟨by rfl, ?_⟩) ?_ ?_
              rotate_left
              · intro w'
                go_simp
                with_reducible rfl
              rotate_left
              · simp only [Act.put, List.setIfInBounds_toArray, List.set_cons_zero, List.set_cons_succ, i64_w, i32_w]
                rfl
              refine take_ (i := 4) (N := some 89) (v := ?_) (a' := ?_) #[true, true, true, true, true, false, false, false, false, false, false] rfl rfl (by kernel_rfl) (fun _ _ _ h => h) (Or.inl ⟨by rfl, ?_⟩) hHeld ?_ ?_
              rotate_left
              · rintro w' ⟨s0, s1, s2, s3⟩
                go_simp
                with_reducible rfl
              rotate_left
              · simp only [Act.put, List.setIfInBounds_toArray, List.set_cons_zero, List.set_cons_succ, i64_w, i32_w]
                rfl
              refine take_ (i := 5) (N := some 90) (v := ?_) (a' := ?_) #[true, true, true, true, true, true, false, false, false, false, false] rfl rfl (by kernel_rfl) (fun _ _ _ h => h) (Or.inl ⟨by rfl, ?_⟩) hHeld ?_ ?_
              rotate_left
              · rintro w' ⟨s0, s1, s2, s3⟩
                go_simp
                with_reducible rfl
              rotate_left
              · simp only [Act.put, List.setIfInBounds_toArray, List.set_cons_zero, List.set_cons_succ, i64_w, i32_w]
                rfl
              refine one_ (i := 6) (N := some 91) #[true, true, true, true, true, true, true, false, false, false, false] rfl rfl (by kernel_rfl) (by decide) (fun K hK => ?_)
              refine value_ (w1 := ?_) (v := ?_) (by rfl) rfl ?_ ?_
              rotate_left 2
              · go_simp
                constructor
                · rfl
                · rfl
              refine hK.out _ _ ⟨blk_cell (HSd.out.bx.alloc _) 1, blk_cell (HYd.out.alloc _) 0, blk_cell (HYd.out.alloc _) 1, blk_cell (HYd.out.alloc _) 2⟩ (fun hHeld => ?_)
              clear hK K
              refine norm_ (a' := ?_) ?_ ?_
              rotate_left
              · show Act.put _ (some 91) _ = _
                simp only [Act.put, List.setIfInBounds_toArray, List.set_cons_zero, List.set_cons_succ, i64_w, i32_w]
                rfl
              refine one_ (i := 7) (N := some 92) #[true, true, true, true, true, true, true, true, false, false, false] rfl rfl (by kernel_rfl) (by decide) (fun K hK => ?_)
              refine Rd.append_step (W := w21.drew) (ok := fun j => S < j ∧ (if j < m then col j else 1) = 1) (okp := fun j => m + 1 ≤ j) (cs := [.string n, .slice A9 l.length c9, .int .i64 at_]) (ds := Enm.d (⟨n, l, at_⟩ : Enm)) (l := s.es.map Enm.d) (by rfl) (.tmp 89) (.tmp 91) 28 (.agg #[.string ⟨#[]⟩, .slice none 0 0, .int .i64 0]) 48 rfl Tryd.underlying28 info_Enum rfl (by decide) (by decide) rfl rfl HA1.out HC1.out (by simp [Enm.d]) (fun k hk => ⟨by omega, if_neg (by omega)⟩) (fun k hk => ⟨⟨by omega, if_neg (by omega)⟩, fun e => by have := HOB.out _ e; omega⟩) (by simp [Value.oneCell']) (by rw [List.length_map]; omega) ?_
              intro u5 w82 h5 hg5 hat5
              obtain ⟨A7, c7, rfl⟩ : ∃ A c, u5 = .slice A (s.es.length + 1) c := (by obtain ⟨A, c, h⟩ := h5.slice; exact ⟨A, c, by rw [h]; simp⟩)
              have HG2 := Lib.hid (grown_own HGd.out hg5 (fun k hk => by have := HOB.out _ hk; omega))
              have HR2 := Lib.hid (HRd.out.grown hg5 (fun k hk => by have := HOB.out _ hk; omega))
              have HB2 : Hid (Bx 31 w82 S _) := Lib.hid ((hg5.block _ (blk_lt HSd.out.bx) (fun e => by have := HOB.out _ e.symm; omega)).trans HSd.out.bx)
              have HZ2 : Hid (Bx 73 w82 E _) := Lib.hid ((hg5.block _ (blk_lt HSd.out.be) (fun e => by have := HOB.out _ e.symm; have := HSd.out.hE; omega)).trans HSd.out.be)
              have HY2 : Hid (Bx 44 w82 m _) := Lib.hid ((hg5.block _ (blk_lt HYd.out) (fun e => by have := HOB.out _ e.symm; omega)).trans HYd.out)
              have Hss2 := Lib.hid (HSd.out.hss.grown hg5 (fun k hk e => by have h8 := (HOB.out _ e).2.2; have h9 := hk.2.2; omega))
              have Hfs2 := Lib.hid (HSd.out.hfs.grown hg5 (fun k hk e => by have h8 := (HOB.out _ e).2.2; have h9 := hk.2.2; omega))
              have HA2 := Lib.hid h5
              clear h5 hg5 hat5
              refine hK.out _ _ ⟨blk_cell HB2.out 1, blk_cell HY2.out 0, blk_cell HY2.out 1, blk_cell HY2.out 2⟩ (fun hHeld => ?_)
              clear hK K
              refine norm_ (a' := ?_) ?_ ?_
              rotate_left
              · show Act.put _ (some 92) _ = _
                simp only [Act.put, List.setIfInBounds_toArray, List.set_cons_zero, List.set_cons_succ, i64_w, i32_w]
                rfl
              refine pure_ (i := 8) (N := some 93) (v := ?_) (a' := ?_) #[true, true, true, true, true, true, true, true, true, false, false] rfl rfl (by kernel_rfl) (fun _ _ _ h => h) (Or.inl ⟨by rfl, ?_⟩) ?_ ?_
              rotate_left
              · intro w'
                go_simp
                with_reducible rfl
              rotate_left
              · simp only [Act.put, List.setIfInBounds_toArray, List.set_cons_zero, List.set_cons_succ, i64_w, i32_w]
                rfl
              refine pure_ (i := 9) (N := some 94) (v := ?_) (a' := ?_) #[true, true, true, true, true, true, true, true, true, true, false] rfl rfl (by kernel_rfl) (fun _ _ _ h => h) (Or.inl ⟨by rfl, ?_⟩) ?_ ?_
              rotate_left
              · intro w'
                go_simp
                with_reducible rfl
              rotate_left
              · simp only [Act.put, List.setIfInBounds_toArray, List.set_cons_zero, List.set_cons_succ, i64_w, i32_w]
                rfl
              refine last_ (i := 10) (N := none) #[true, true, true, true, true, true, true, true, true, true, true] rfl rfl (by kernel_rfl) (by decide) (fun K hK => ?_)
              have hfz := blk_frozen HB2.out 1
              have hcz : w82.cell? ⟨S, 1, none⟩ = some (.slice A2 s.es.length c2) := blk_cell HB2.out 1
              refine skip_ (w1 := ?_) (by rfl) rfl ?_ ?_
              rotate_left
              · go_simp
                rfl
              refine hK.out _ _ ?_
              clear hK K
              refine done_ (by kernel_rfl) ?_
              clear hHeld hfz hcz
              have HG3 := Lib.hid (grown_set HG2.out (p := ⟨S, 1, none⟩) (by simp only; omega) (.slice A7 (s.es.length + 1) c7))
              have HR3 := Lib.hid (HR2.out.far (p := ⟨S, 1, none⟩) (by simp only; omega) (.slice A7 (s.es.length + 1) c7))
              have HB3 : Hid (Bx 31 (w82.setCell ⟨S, 1, none⟩ (.slice A7 (s.es.length + 1) c7)) S #[.slice A1 s.ss.length c1, .slice A7 (s.es.length + 1) c7, .slice A3 s.fs.length c3]) := Lib.hid (by have h := HB2.out.set 1 (.slice A7 (s.es.length + 1) c7); simpa using h)
              have Hss3 := Lib.hid (Hss2.out.far (p := ⟨S, 1, none⟩) (fun k hk => by have := hk.1; simp only; omega) (.slice A7 (s.es.length + 1) c7))
              have Hfs3 := Lib.hid (Hfs2.out.far (p := ⟨S, 1, none⟩) (fun k hk => by have := hk.1; simp only; omega) (.slice A7 (s.es.length + 1) c7))
              have HA3 := Lib.hid (HA2.out.far (p := ⟨S, 1, none⟩) (fun k hk => by have := hk.1; simp only; omega) (.slice A7 (s.es.length + 1) c7))
              have HZ3 := Lib.hid (HZ2.out.far (p := ⟨S, 1, none⟩) (by have := HSd.out.hE; simp only; omega) (.slice A7 (s.es.length + 1) c7))
              have HHE := Lib.hid HSd.out.hE
              clear HZ2 HG HR HS HY HGd HRd HSd HYd HOB HA1 HC1 HG2 HR2 HB2 HY2 HA2 Hss2 Hfs2 HL HLd
              generalize (w82.setCell ⟨S, 1, none⟩ (.slice A7 (s.es.length + 1) c7)) = w93 at *
              go_wp2_with fail
              go_end0
              exact .inr ⟨HG3.out, _, _, HPF.out, rfl, SrcAt.add_es (A1 := A1) (A2 := A2) (A3 := A3) (c1 := c1) (c2 := c2) (c3 := c3) HB3.out HHE.out HZ3.out Hss3.out Hfs3.out HA3.out, HR3.out⟩
            · go_wp2_with fail
              exact ⟨rfl, .inl ⟨World.grownBy.trans HG.out hg, ⟨_, _, _, _, _, _, _, _, HS.out.kept hg hRS⟩, er, at9, (by rw [HIT.out]; exact Ps.bd_err (by rw [enumP, Ps.bd_ok HP11.out, Ps.bd_ok HP12.out]; exact Ps.bd_err hp)), rfl⟩⟩
          · go_wp2_with fail
            exact ⟨rfl, .inl ⟨World.grownBy.trans HG.out hg, ⟨_, _, _, _, _, _, _, _, HS.out.kept hg hRS⟩, er, at9, (by rw [HIT.out]; exact Ps.bd_err (by rw [enumP, Ps.bd_ok HP11.out]; exact Ps.bd_err hp)), rfl⟩⟩
        · go_wp2_with fail
          exact ⟨rfl, .inl ⟨World.grownBy.trans HG.out hg, ⟨_, _, _, _, _, _, _, _, HS.out.kept hg hRS⟩, er, at9, (by rw [HIT.out]; exact Ps.bd_err (by rw [enumP]; exact Ps.bd_err hp)), rfl⟩⟩
      · skip
        have HIT : Hid (itemP s ts = ((fnP at_).bd fun x => .ret { s with fs := s.fs ++ [x] }) ts) := Lib.hid (by rw [item_fn HW1.out HW2.out hw, ← HAT.out])
        clear hw HW1 HW2
        have HG_ := Lib.hid (World.grownBy.trans HG.out hg)
        have HR_ := Lib.hid hr
        have HS_ := Lib.hid (HS.out.kept hg (by omega))
        clear hg hr HG HR HS
        have HG := HG_
        have HR := HR_
        have HS := HS_
        clear HG_ HR_ HS_
        go_wp2_with fail
        refine (must_rd HR.out ⟨#[99, 111]⟩).mono ?_
        rintro e w22 ⟨hg, ⟨⟨⟩, u1, v, hp, rfl, rfl, hr, hle⟩ | ⟨er, at9, hp, rfl⟩⟩
        · skip
          have HP14 := Lib.hid hp
          have HLE14 := Lib.hid hle
          clear hp hle
          have HG_ := Lib.hid (World.grownBy.trans HG.out hg)
          have HR_ := Lib.hid hr
          have HS_ := Lib.hid (HS.out.kept hg (by omega))
          clear hg hr HG HR HS
          have HG := HG_
          have HR := HR_
          have HS := HS_
          clear HG_ HR_ HS_
          go_wp2_with fail
          refine (name_rd HR.out false).mono ?_
          rintro e w23 ⟨hg, ⟨n, u2, v, hp, rfl, rfl, hr, hle⟩ | ⟨er, at9, hp, rfl⟩⟩
          · skip
            have HP15 := Lib.hid hp
            have HLE15 := Lib.hid hle
            clear hp hle
            have HG_ := Lib.hid (World.grownBy.trans HG.out hg)
            have HR_ := Lib.hid hr
            have HS_ := Lib.hid (HS.out.kept hg (by omega))
            clear hg hr HG HR HS
            have HG := HG_
            have HR := HR_
            have HS := HS_
            clear HG_ HR_ HS_
            have HS_ := Lib.hid HS.out.bound
            clear HS
            have HS := HS_
            clear HS_
            have hSm : S < w23.heap.size := blk_lt HS.out.bx
            have hlm : W.heap.size ≤ w23.heap.size := HG.out.size
            have HG_ := Lib.hid (grown_alloc HG.out (.cells #[.string n, .slice none 0 0, .slice none 0 0, .int .i64 at_] 38))
            have HR_ := Lib.hid (HR.out.below (bel_one HR.out.lt (.cells #[.string n, .slice none 0 0, .slice none 0 0, .int .i64 at_] 38)) (by omega))
            have HS_ := Lib.hid (HS.out.bel ((Below.refl _ _).alloc (Nat.le_refl _) (.cells #[.string n, .slice none 0 0, .slice none 0 0, .int .i64 at_] 38)))
            have HY_ : Hid (Bx 38 (w23.alloc (.cells #[.string n, .slice none 0 0, .slice none 0 0, .int .i64 at_] 38)) w23.heap.size #[.string n, .slice none 0 0, .slice none 0 0, .int .i64 at_]) := Lib.hid (.newAt rfl)
            clear HG HR HS
            have HG := HG_
            have HR := HR_
            have HS := HS_
            clear HG_ HR_ HS_
            have HY := HY_
            clear HY_
            go_wp2_with (first
              | (with_reducible refine wpList_store_row (o := ⟨none, .store 38 (.tmp 8) (.tmp 19), _, _, _, _⟩) rfl 38 _ _ rfl (w23.heap.size) #[.string n, .slice none 0 0, .slice none 0 0, .int .i64 at_] rfl rfl 38 #[.string ⟨#[]⟩, .slice none 0 0, .slice none 0 0, .int .i64 0] (heap_alloc_new w23 _) (by kernel_rfl) (by kernel_rfl) (by kernel_rfl) ?_
                 rw [World.setRow_alloc_new]))
            generalize w23.alloc (.cells #[.string n, .slice none 0 0, .slice none 0 0, .int .i64 at_] 38) = w24 at *
            generalize w23.heap.size = m at *
            refine (must_rd HR.out ⟨#[40]⟩).mono ?_
            rintro e w25 ⟨hg, ⟨⟨⟩, u3, v, hp, rfl, rfl, hr, hle⟩ | ⟨er, at9, hp, rfl⟩⟩
            · skip
              have HP16 := Lib.hid hp
              have HLE16 := Lib.hid hle
              clear hp hle
              have HG_ := Lib.hid (World.grownBy.trans HG.out hg)
              have HR_ := Lib.hid hr
              have HY_ := Lib.hid (HY.out.kept hg (by omega))
              have HS_ := Lib.hid (HS.out.kept hg (by omega))
              clear hg hr HG HR HY HS
              have HG := HG_
              have HR := HR_
              have HY := HY_
              have HS := HS_
              clear HG_ HR_ HY_ HS_
              go_wp2_with fail
              refine (list_Field HR.out ⟨#[41]⟩).mono ?_
              rintro e w26 ⟨hg, ⟨l, u4, v, hp, rfl, hv, hr, hle⟩ | ⟨er, at9, hp, rfl⟩⟩
              · skip
                obtain ⟨A9, c9, rfl⟩ := hv.slice
                rw [List.length_map] at hv ⊢
                have hm3 := blk_lt HY.out
                have HL := Lib.hid (hv.low (m := m + 1) (by omega))
                clear hv hm3
                have HP17 := Lib.hid hp
                have HLE17 := Lib.hid hle
                clear hp hle
                have HG_ := Lib.hid (World.grownBy.trans HG.out hg)
                have HR_ := Lib.hid hr
                have HY_ := Lib.hid (HY.out.kept hg (by omega))
                have HS_ := Lib.hid (HS.out.kept hg (by omega))
                clear hg hr HG HR HY HS
                have HG := HG_
                have HR := HR_
                have HY := HY_
                have HS := HS_
                clear HG_ HR_ HY_ HS_
                obtain ⟨lHY, cHY, fHY⟩ := HY.out.see
                have HPUT := Lib.hid (Put.set (Put.refl m (m + 1) w26) (p := ⟨m, 1, none⟩) (by simp only; omega) (by simp only; omega) (.slice A9 l.length c9))
                have HG_ := Lib.hid (HPUT.out.grown HG.out (by omega))
                have HR_ := Lib.hid (HR.out.put HPUT.out (by omega))
                have HY_ : Hid (Bx 38 (w26.setCell ⟨m, 1, none⟩ (.slice A9 l.length c9)) m #[.string n, .slice A9 l.length c9, .slice none 0 0, .int .i64 at_]) := Lib.hid (by have h := HY.out.set 1 (.slice A9 l.length c9); simpa using h)
                have HS_ := Lib.hid (HS.out.put HPUT.out hSm (Nat.le_refl _))
                have HL_ := Lib.hid (HL.out.put HPUT.out (Nat.le_refl _))
                clear HPUT HG HR HY HS HL
                have HG := HG_
                have HR := HR_
                have HY := HY_
                have HS := HS_
                have HL := HL_
                clear HG_ HR_ HY_ HS_ HL_
                go_wp2_with fail
                clear lHY cHY fHY
                generalize (w26.setCell ⟨m, 1, none⟩ (.slice A9 l.length c9)) = w27 at *
                refine (block_ok 60 1 (by omega) (by omega) _ _ _ HR.out).mono ?_
                rintro e w28 ⟨hg, ⟨bl, u5, v, hp, rfl, hv, hr, hle⟩ | ⟨er, at9, hp, rfl⟩⟩
                · skip
                  obtain ⟨A8, c8, rfl⟩ := hv.slice
                  rw [Stm.ds_length] at hv ⊢
                  have hm3 := blk_lt HY.out
                  have HM := Lib.hid (hv.low (m := m + 1) (by omega))
                  clear hv hm3
                  have HP18 := Lib.hid hp
                  have HLE18 := Lib.hid hle
                  clear hp hle
                  have HG_ := Lib.hid (World.grownBy.trans HG.out hg)
                  have HR_ := Lib.hid hr
                  have HY_ := Lib.hid (HY.out.kept hg (by omega))
                  have HS_ := Lib.hid (HS.out.kept hg (by omega))
                  have HL_ := Lib.hid (HL.out.kept hg (by omega))
                  clear hg hr HG HR HY HS HL
                  have HG := HG_
                  have HR := HR_
                  have HY := HY_
                  have HS := HS_
                  have HL := HL_
                  clear HG_ HR_ HY_ HS_ HL_
                  obtain ⟨lHY, cHY, fHY⟩ := HY.out.see
                  have HPUT := Lib.hid (Put.set (Put.refl m (m + 1) w28) (p := ⟨m, 2, none⟩) (by simp only; omega) (by simp only; omega) (.slice A8 bl.length c8))
                  have HG_ := Lib.hid (HPUT.out.grown HG.out (by omega))
                  have HR_ := Lib.hid (HR.out.put HPUT.out (by omega))
                  have HY_ : Hid (Bx 38 (w28.setCell ⟨m, 2, none⟩ (.slice A8 bl.length c8)) m #[.string n, .slice A9 l.length c9, .slice A8 bl.length c8, .int .i64 at_]) := Lib.hid (by have h := HY.out.set 2 (.slice A8 bl.length c8); simpa using h)
                  have HS_ := Lib.hid (HS.out.put HPUT.out hSm (Nat.le_refl _))
                  have HL_ := Lib.hid (HL.out.put HPUT.out (Nat.le_refl _))
                  have HM_ := Lib.hid (HM.out.put HPUT.out (Nat.le_refl _))
                  clear HPUT HG HR HY HS HL HM
                  have HG := HG_
                  have HR := HR_
                  have HY := HY_
                  have HS := HS_
                  have HL := HL_
                  have HM := HM_
                  clear HG_ HR_ HY_ HS_ HL_ HM_
                  go_wp2_with fail
                  clear lHY cHY fHY
                  generalize (w28.setCell ⟨m, 2, none⟩ (.slice A8 bl.length c8)) = w29 at *
                  have HPF : Hid (itemP s ts = .ok ({ s with fs := s.fs ++ [(⟨n, l, bl, at_⟩ : Fnc)] }, u5)) := Lib.hid (by rw [HIT.out, Ps.bd_ok (show _ = Except.ok ((⟨n, l, bl, at_⟩ : Fnc), u5) from by rw [fnP, Ps.bd_ok HP14.out, Ps.bd_ok HP15.out, Ps.bd_ok HP16.out, Ps.bd_ok HP17.out, Ps.bd_ok HP18.out]; exact rfl)]; exact rfl)
                  have HGd := Lib.hid (grown_then HG.out (bel_drew (Below.refl w29.heap.size w29)) HG.out.size)
                  have HRd := Lib.hid (HR.out.below (bel_drew (Below.refl w29.heap.size w29)) HR.out.lt)
                  have HSd := Lib.hid (HS.out.bel (bel_drew (Below.refl w29.heap.size w29)))
                  have HYd := Lib.hid (HY.out.drew)
                  have HLd := Lib.hid (HL.out.bel (bel_drew (Below.refl w29.heap.size w29)))
                  have HMd := Lib.hid (HM.out.bel (bel_drew (Below.refl w29.heap.size w29)))
                  have hm9 : m < w29.drew.heap.size := blk_lt HYd.out
                  have HOB : Hid (∀ k, (Value.slice A3 s.fs.length c3).ownBlock = some k → S < k ∧ k < m ∧ col k = 2) := Lib.hid (fun k hk => by obtain ⟨xs, ho, h1⟩ := HSd.out.hfs.owns; exact h1 k hk)
                  have HA1 := Lib.hid (HSd.out.hfs.mono (ok' := fun j => S < j ∧ (if j < m then col j else 2) = 2) (fun k hk => ⟨hk.1, by rw [if_pos hk.2.1]; exact hk.2.2⟩))
                  have HC1 : Hid (Rds w29.drew (fun j => m + 1 ≤ j) [.string n, .slice A9 l.length c9, .slice A8 bl.length c8, .int .i64 at_] (Fnc.d (⟨n, l, bl, at_⟩ : Fnc))) := Lib.hid (by simp only [Fnc.d]; exact ⟨.v _, HLd.out, HMd.out, .v _, trivial⟩)
                  refine start_ (n := 11) (S := fun w' => w'.cell? ⟨S, 2, none⟩ = some (.slice A3 s.fs.length c3) ∧ w'.cell? ⟨m, 0, none⟩ = some (.string n) ∧ w'.cell? ⟨m, 1, none⟩ = some (.slice A9 l.length c9) ∧ w'.cell? ⟨m, 2, none⟩ = some (.slice A8 bl.length c8) ∧ w'.cell? ⟨m, 3, none⟩ = some (.int .i64 at_)) (ds := [10]) #[false, false, false, false, false, false, false, false, false, false, false] (by kernel_rfl) rfl rfl ⟨blk_cell HSd.out.bx 2, blk_cell HYd.out 0, blk_cell HYd.out 1, blk_cell HYd.out 2, blk_cell HYd.out 3⟩ (fun hHeld => ?_)
                  refine pure_ (i := 0) (N := some 30) (v := ?_) (a' := ?_) #[true, false, false, false, false, false, false, false, false, false, false] rfl rfl (by kernel_rfl) (fun _ _ _ h => h) (Or.inl ⟨by rfl, ?_⟩) ?_ ?_
                  rotate_left
                  · intro w'
                    go_simp
                    with_reducible rfl
                  rotate_left
                  · simp only [Act.put, List.setIfInBounds_toArray, List.set_cons_zero, List.set_cons_succ, i64_w, i32_w]
                    rfl
                  refine pure_ (i := 1) (N := some 31) (v := ?_) (a' := ?_) #[true, true, false, false, false, false, false, false, false, false, false] rfl rfl (by kernel_rfl) (fun _ _ _ h => h) (Or.inl ⟨by rfl, ?_⟩) ?_ ?_
                  rotate_left
                  · intro w'
                    go_simp
                    with_reducible rfl
                  rotate_left
                  · simp only [Act.put, List.setIfInBounds_toArray, List.set_cons_zero, List.set_cons_succ, i64_w, i32_w]
                    rfl
                  refine pure_ (i := 2) (N := some 32) (v := ?_) (a' := ?_) #[true, true, true, false, false, false, false, false, false, false, false] rfl rfl (by kernel_rfl) (fun _ _ _ h => h) (Or.inl ⟨by rfl, ?_⟩) ?_ ?_
                  rotate_left
                  · intro w'
                    go_simp
                    with_reducible rfl
                  rotate_left
                  · simp only [Act.put, List.setIfInBounds_toArray, List.set_cons_zero, List.set_cons_succ, i64_w, i32_w]
                    rfl
                  refine pure_ (i := 3) (N := some 33) (v := ?_) (a' := ?_) #[true, true, true, true, false, false, false, false, false, false, false] rfl rfl (by kernel_rfl) (fun _ _ _ h => h) (Or.inl ⟨by rfl, ?_⟩) ?_ ?_
                  rotate_left
                  · intro w'
                    go_simp
                    with_reducible rfl
                  rotate_left
                  · simp only [Act.put, List.setIfInBounds_toArray, List.set_cons_zero, List.set_cons_succ, i64_w, i32_w]
                    rfl
                  refine take_ (i := 4) (N := some 34) (v := ?_) (a' := ?_) #[true, true, true, true, true, false, false, false, false, false, false] rfl rfl (by kernel_rfl) (fun _ _ _ h => h) (Or.inl ⟨by rfl, ?_⟩) hHeld ?_ ?_
                  rotate_left
                  · rintro w' ⟨s0, s1, s2, s3, s4⟩
                    go_simp
                    with_reducible rfl
                  rotate_left
                  · simp only [Act.put, List.setIfInBounds_toArray, List.set_cons_zero, List.set_cons_succ, i64_w, i32_w]
                    rfl
                  refine take_ (i := 5) (N := some 35) (v := ?_) (a' := ?_) #[true, true, true, true, true, true, false, false, false, false, false] rfl rfl (by kernel_rfl) (fun _ _ _ h => h) (Or.inl ⟨by rfl, ?_⟩) hHeld ?_ ?_
                  rotate_left
                  · rintro w' ⟨s0, s1, s2, s3, s4⟩
                    go_simp
                    with_reducible rfl
                  rotate_left
                  · simp only [Act.put, List.setIfInBounds_toArray, List.set_cons_zero, List.set_cons_succ, i64_w, i32_w]
                    rfl
                  refine one_ (i := 6) (N := some 36) #[true, true, true, true, true, true, true, false, false, false, false] rfl rfl (by kernel_rfl) (by decide) (fun K hK => ?_)
                  refine value_ (w1 := ?_) (v := ?_) (by rfl) rfl ?_ ?_
                  rotate_left 2
                  · go_simp
                    constructor
                    · rfl
                    · rfl
                  refine hK.out _ _ ⟨blk_cell (HSd.out.bx.alloc _) 2, blk_cell (HYd.out.alloc _) 0, blk_cell (HYd.out.alloc _) 1, blk_cell (HYd.out.alloc _) 2, blk_cell (HYd.out.alloc _) 3⟩ (fun hHeld => ?_)
                  clear hK K
                  refine norm_ (a' := ?_) ?_ ?_
                  rotate_left
                  · show Act.put _ (some 36) _ = _
                    simp only [Act.put, List.setIfInBounds_toArray, List.set_cons_zero, List.set_cons_succ, i64_w, i32_w]
                    rfl
                  refine one_ (i := 7) (N := some 37) #[true, true, true, true, true, true, true, true, false, false, false] rfl rfl (by kernel_rfl) (by decide) (fun K hK => ?_)
                  refine Rd.append_step (W := w29.drew) (ok := fun j => S < j ∧ (if j < m then col j else 2) = 2) (okp := fun j => m + 1 ≤ j) (cs := [.string n, .slice A9 l.length c9, .slice A8 bl.length c8, .int .i64 at_]) (ds := Fnc.d (⟨n, l, bl, at_⟩ : Fnc)) (l := s.fs.map Fnc.d) (by rfl) (.tmp 34) (.tmp 36) 29 (.agg #[.string ⟨#[]⟩, .slice none 0 0, .slice none 0 0, .int .i64 0]) 72 rfl Tryd.underlying29 info_Fn rfl (by decide) (by decide) rfl rfl HA1.out HC1.out (by simp [Fnc.d]) (fun k hk => ⟨by omega, if_neg (by omega)⟩) (fun k hk => ⟨⟨by omega, if_neg (by omega)⟩, fun e => by have := HOB.out _ e; omega⟩) (by simp [Value.oneCell']) (by rw [List.length_map]; omega) ?_
                  intro u5 w82 h5 hg5 hat5
                  obtain ⟨A7, c7, rfl⟩ : ∃ A c, u5 = .slice A (s.fs.length + 1) c := (by obtain ⟨A, c, h⟩ := h5.slice; exact ⟨A, c, by rw [h]; simp⟩)
                  have HG2 := Lib.hid (grown_own HGd.out hg5 (fun k hk => by have := HOB.out _ hk; omega))
                  have HR2 := Lib.hid (HRd.out.grown hg5 (fun k hk => by have := HOB.out _ hk; omega))
                  have HB2 : Hid (Bx 31 w82 S _) := Lib.hid ((hg5.block _ (blk_lt HSd.out.bx) (fun e => by have := HOB.out _ e.symm; omega)).trans HSd.out.bx)
                  have HZ2 : Hid (Bx 73 w82 E _) := Lib.hid ((hg5.block _ (blk_lt HSd.out.be) (fun e => by have := HOB.out _ e.symm; have := HSd.out.hE; omega)).trans HSd.out.be)
                  have HY2 : Hid (Bx 38 w82 m _) := Lib.hid ((hg5.block _ (blk_lt HYd.out) (fun e => by have := HOB.out _ e.symm; omega)).trans HYd.out)
                  have Hss2 := Lib.hid (HSd.out.hss.grown hg5 (fun k hk e => by have h8 := (HOB.out _ e).2.2; have h9 := hk.2.2; omega))
                  have Hes2 := Lib.hid (HSd.out.hes.grown hg5 (fun k hk e => by have h8 := (HOB.out _ e).2.2; have h9 := hk.2.2; omega))
                  have HA2 := Lib.hid h5
                  clear h5 hg5 hat5
                  refine hK.out _ _ ⟨blk_cell HB2.out 2, blk_cell HY2.out 0, blk_cell HY2.out 1, blk_cell HY2.out 2, blk_cell HY2.out 3⟩ (fun hHeld => ?_)
                  clear hK K
                  refine norm_ (a' := ?_) ?_ ?_
                  rotate_left
                  · show Act.put _ (some 37) _ = _
                    simp only [Act.put, List.setIfInBounds_toArray, List.set_cons_zero, List.set_cons_succ, i64_w, i32_w]
                    rfl
                  refine pure_ (i := 8) (N := some 38) (v := ?_) (a' := ?_) #[true, true, true, true, true, true, true, true, true, false, false] rfl rfl (by kernel_rfl) (fun _ _ _ h => h) (Or.inl ⟨by rfl, ?_⟩) ?_ ?_
                  rotate_left
                  · intro w'
                    go_simp
                    with_reducible rfl
                  rotate_left
                  · simp only [Act.put, List.setIfInBounds_toArray, List.set_cons_zero, List.set_cons_succ, i64_w, i32_w]
                    rfl
                  refine pure_ (i := 9) (N := some 39) (v := ?_) (a' := ?_) #[true, true, true, true, true, true, true, true, true, true, false] rfl rfl (by kernel_rfl) (fun _ _ _ h => h) (Or.inl ⟨by rfl, ?_⟩) ?_ ?_
                  rotate_left
                  · intro w'
                    go_simp
                    with_reducible rfl
                  rotate_left
                  · simp only [Act.put, List.setIfInBounds_toArray, List.set_cons_zero, List.set_cons_succ, i64_w, i32_w]
                    rfl
                  refine last_ (i := 10) (N := none) #[true, true, true, true, true, true, true, true, true, true, true] rfl rfl (by kernel_rfl) (by decide) (fun K hK => ?_)
                  have hfz := blk_frozen HB2.out 2
                  have hcz : w82.cell? ⟨S, 2, none⟩ = some (.slice A3 s.fs.length c3) := blk_cell HB2.out 2
                  refine skip_ (w1 := ?_) (by rfl) rfl ?_ ?_
                  rotate_left
                  · go_simp
                    rfl
                  refine hK.out _ _ ?_
                  clear hK K
                  refine done_ (by kernel_rfl) ?_
                  clear hHeld hfz hcz
                  have HG3 := Lib.hid (grown_set HG2.out (p := ⟨S, 2, none⟩) (by simp only; omega) (.slice A7 (s.fs.length + 1) c7))
                  have HR3 := Lib.hid (HR2.out.far (p := ⟨S, 2, none⟩) (by simp only; omega) (.slice A7 (s.fs.length + 1) c7))
                  have HB3 : Hid (Bx 31 (w82.setCell ⟨S, 2, none⟩ (.slice A7 (s.fs.length + 1) c7)) S #[.slice A1 s.ss.length c1, .slice A2 s.es.length c2, .slice A7 (s.fs.length + 1) c7]) := Lib.hid (by have h := HB2.out.set 2 (.slice A7 (s.fs.length + 1) c7); simpa using h)
                  have Hss3 := Lib.hid (Hss2.out.far (p := ⟨S, 2, none⟩) (fun k hk => by have := hk.1; simp only; omega) (.slice A7 (s.fs.length + 1) c7))
                  have Hes3 := Lib.hid (Hes2.out.far (p := ⟨S, 2, none⟩) (fun k hk => by have := hk.1; simp only; omega) (.slice A7 (s.fs.length + 1) c7))
                  have HA3 := Lib.hid (HA2.out.far (p := ⟨S, 2, none⟩) (fun k hk => by have := hk.1; simp only; omega) (.slice A7 (s.fs.length + 1) c7))
                  have HZ3 := Lib.hid (HZ2.out.far (p := ⟨S, 2, none⟩) (by have := HSd.out.hE; simp only; omega) (.slice A7 (s.fs.length + 1) c7))
                  have HHE := Lib.hid HSd.out.hE
                  clear HZ2 HG HR HS HY HGd HRd HSd HYd HOB HA1 HC1 HG2 HR2 HB2 HY2 HA2 Hss2 Hes2 HL HM HLd HMd
                  generalize (w82.setCell ⟨S, 2, none⟩ (.slice A7 (s.fs.length + 1) c7)) = w93 at *
                  go_wp2_with fail
                  go_end0
                  exact .inr ⟨HG3.out, _, _, HPF.out, rfl, SrcAt.add_fs (A1 := A1) (A2 := A2) (A3 := A3) (c1 := c1) (c2 := c2) (c3 := c3) HB3.out HHE.out HZ3.out Hss3.out Hes3.out HA3.out, HR3.out⟩
                · go_wp2_with fail
                  exact ⟨rfl, .inl ⟨World.grownBy.trans HG.out hg, ⟨_, _, _, _, _, _, _, _, HS.out.kept hg hRS⟩, er, at9, (by rw [HIT.out]; exact Ps.bd_err (by rw [fnP, Ps.bd_ok HP14.out, Ps.bd_ok HP15.out, Ps.bd_ok HP16.out, Ps.bd_ok HP17.out]; exact Ps.bd_err hp)), rfl⟩⟩
              · go_wp2_with fail
                exact ⟨rfl, .inl ⟨World.grownBy.trans HG.out hg, ⟨_, _, _, _, _, _, _, _, HS.out.kept hg hRS⟩, er, at9, (by rw [HIT.out]; exact Ps.bd_err (by rw [fnP, Ps.bd_ok HP14.out, Ps.bd_ok HP15.out, Ps.bd_ok HP16.out]; exact Ps.bd_err hp)), rfl⟩⟩
            · go_wp2_with fail
              exact ⟨rfl, .inl ⟨World.grownBy.trans HG.out hg, ⟨_, _, _, _, _, _, _, _, HS.out.kept hg hRS⟩, er, at9, (by rw [HIT.out]; exact Ps.bd_err (by rw [fnP, Ps.bd_ok HP14.out, Ps.bd_ok HP15.out]; exact Ps.bd_err hp)), rfl⟩⟩
          · go_wp2_with fail
            exact ⟨rfl, .inl ⟨World.grownBy.trans HG.out hg, ⟨_, _, _, _, _, _, _, _, HS.out.kept hg hRS⟩, er, at9, (by rw [HIT.out]; exact Ps.bd_err (by rw [fnP, Ps.bd_ok HP14.out]; exact Ps.bd_err hp)), rfl⟩⟩
        · go_wp2_with fail
          exact ⟨rfl, .inl ⟨World.grownBy.trans HG.out hg, ⟨_, _, _, _, _, _, _, _, HS.out.kept hg hRS⟩, er, at9, (by rw [HIT.out]; exact Ps.bd_err (by rw [fnP]; exact Ps.bd_err hp)), rfl⟩⟩
end Go.Proofs.YtjoiflokekebkaaDoor
