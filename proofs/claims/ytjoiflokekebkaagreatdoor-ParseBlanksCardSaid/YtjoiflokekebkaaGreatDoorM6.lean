/- Texts of this claim in one file: R13, R14, R15. -/
import Derived.Deep.WholeRow
import Derived.Test.YtjoiflokekebkaaGreatDoorM5
set_option linter.all false
section
/- Walks: a statement. -/
namespace Go.Proofs.YtjoiflokekebkaaGreatDoor
open Go.RowKit Go.Proofs.YtjoiflokekebkaaGreatDoorW.PrintLast

theorem Arm.ds_snoc (a : List Arm) (x : Arm) : Arm.ds (a ++ [x]) = Arm.ds a ++ [Arm.d x] := by
  induction a with
  | nil => simp [Arm.ds]
  | cons y a ih => simp [Arm.ds, ih]
theorem Put.row {lo hi : Nat} {w w' : World} (h : Put lo hi w w') {g : Nat} (h1 : lo ≤ g) (h2 : g < hi) (cs : Array Value) : Put lo hi w (w'.setRow g cs) :=
  ⟨h.os, h.tape, h.output, (by rw [setRow_size]; exact h.size), fun k hk => (setRow_other w' g k cs (by omega)).trans (h.block k hk)⟩

set_option maxRecDepth 100000 in
set_option maxHeartbeats 32000000 in
theorem stmt_rd {W : World} {R : Nat} {ts : List Tk} (h : Rdr W R ts) {k : Nat} (ih : BlkOk k) (d : Int) (h0 : 0 ≤ d) (hd : d + 1 + k = 61) : Calls Tryz.prog 194 #[.pointer (some ⟨R, 0, none⟩), .int .i64 d] W fun e W' => Does (stmtP (blockP k)) (Leads W Stm.d) W R ts e W' := by
  have hR := h.lt
  have hlen := h.ok.len
  have hd61 : d ≤ 61 := by omega
  have IH := Lib.hid (fun w us (h : Rdr w R us) => ih (d + 1) (by omega) hd w R us h)
  have IA := Lib.hid (fun w us (h : Rdr w R us) => arm_rd (ts := us) h ih d h0 hd)
  clear ih hd
  have hf := tok_at
  have HR := Lib.hid (h.below ((Below.refl (R + 1) W).alloc (by omega) (.cells #[.int .i64 0, .int .i64 0, .string ⟨#[]⟩, .int .i64 0, .string ⟨#[]⟩, .slice none 0 0, .string ⟨#[]⟩, .slice none 0 0, .int .i64 0, .slice none 0 0, .string ⟨#[]⟩, .slice none 0 0, .string ⟨#[]⟩, .string ⟨#[]⟩, .bool false, .int .i64 0, .string ⟨#[]⟩, .slice none 0 0, .slice none 0 0, .slice none 0 0, .slice none 0 0] 60)) (by omega))
  have HG := Lib.hid (grown_alloc (World.grownBy.refl W (some R)) (.cells #[.int .i64 0, .int .i64 0, .string ⟨#[]⟩, .int .i64 0, .string ⟨#[]⟩, .slice none 0 0, .string ⟨#[]⟩, .slice none 0 0, .int .i64 0, .slice none 0 0, .string ⟨#[]⟩, .slice none 0 0, .string ⟨#[]⟩, .string ⟨#[]⟩, .bool false, .int .i64 0, .string ⟨#[]⟩, .slice none 0 0, .slice none 0 0, .slice none 0 0, .slice none 0 0] 60))
  have HX := Lib.hid (.newAt rfl : Bx 60 (W.alloc (.cells #[.int .i64 0, .int .i64 0, .string ⟨#[]⟩, .int .i64 0, .string ⟨#[]⟩, .slice none 0 0, .string ⟨#[]⟩, .slice none 0 0, .int .i64 0, .slice none 0 0, .string ⟨#[]⟩, .slice none 0 0, .string ⟨#[]⟩, .string ⟨#[]⟩, .bool false, .int .i64 0, .string ⟨#[]⟩, .slice none 0 0, .slice none 0 0, .slice none 0 0, .slice none 0 0] 60)) W.heap.size #[.int .i64 0, .int .i64 0, .string ⟨#[]⟩, .int .i64 0, .string ⟨#[]⟩, .slice none 0 0, .string ⟨#[]⟩, .slice none 0 0, .int .i64 0, .slice none 0 0, .string ⟨#[]⟩, .slice none 0 0, .string ⟨#[]⟩, .string ⟨#[]⟩, .bool false, .int .i64 0, .string ⟨#[]⟩, .slice none 0 0, .slice none 0 0, .slice none 0 0, .slice none 0 0])
  clear h
  go_enter Tryz.func194, Tryz.ntmps194
  go_wp2_with fail
  generalize (W.alloc (.cells #[.int .i64 0, .int .i64 0, .string ⟨#[]⟩, .int .i64 0, .string ⟨#[]⟩, .slice none 0 0, .string ⟨#[]⟩, .slice none 0 0, .int .i64 0, .slice none 0 0, .string ⟨#[]⟩, .slice none 0 0, .string ⟨#[]⟩, .string ⟨#[]⟩, .bool false, .int .i64 0, .string ⟨#[]⟩, .slice none 0 0, .slice none 0 0, .slice none 0 0, .slice none 0 0] 60)) = w1 at *
  refine (next_rd HR.out).mono ?_
  rintro e w2 ⟨rfl, hb⟩
  have HG_ := Lib.hid (grown_then HG.out hb HG.out.size)
  have HR_ := Lib.hid (HR.out.below hb HR.out.lt)
  have HX_ := Lib.hid (HX.out.below hb)
  clear hb HG HR HX
  have HG := HG_
  have HR := HR_
  have HX := HX_
  clear HG_ HR_ HX_
  obtain ⟨at_, hat⟩ : ∃ a, a = (hd ts).at_ := ⟨_, rfl⟩
  have HAT := Lib.hid hat
  have HS : Hid (Since W w2.heap.size R W.heap.size #[.int .i64 0, .int .i64 0, .string ⟨#[]⟩, .int .i64 0, .string ⟨#[]⟩, .slice none 0 0, .string ⟨#[]⟩, .slice none 0 0, .int .i64 0, .slice none 0 0, .string ⟨#[]⟩, .slice none 0 0, .string ⟨#[]⟩, .string ⟨#[]⟩, .bool false, .int .i64 0, .string ⟨#[]⟩, .slice none 0 0, .slice none 0 0, .slice none 0 0, .slice none 0 0] (w2.alloc (.cells #[.int .i64 0, .int .i64 at_, .string ⟨#[]⟩, .int .i64 0, .string ⟨#[]⟩, .slice none 0 0, .string ⟨#[]⟩, .slice none 0 0, .int .i64 0, .slice none 0 0, .string ⟨#[]⟩, .slice none 0 0, .string ⟨#[]⟩, .string ⟨#[]⟩, .bool false, .int .i64 0, .string ⟨#[]⟩, .slice none 0 0, .slice none 0 0, .slice none 0 0, .slice none 0 0] 60))) := Lib.hid ⟨w2, rfl, HG.out, World.grownBy_alloc _ _ _, HX.out⟩
  rw [← hat]
  clear hat
  have hlm : W.heap.size < w2.heap.size := blk_lt HX.out
  have HG_ := Lib.hid (grown_alloc HG.out (.cells #[.int .i64 0, .int .i64 at_, .string ⟨#[]⟩, .int .i64 0, .string ⟨#[]⟩, .slice none 0 0, .string ⟨#[]⟩, .slice none 0 0, .int .i64 0, .slice none 0 0, .string ⟨#[]⟩, .slice none 0 0, .string ⟨#[]⟩, .string ⟨#[]⟩, .bool false, .int .i64 0, .string ⟨#[]⟩, .slice none 0 0, .slice none 0 0, .slice none 0 0, .slice none 0 0] 60))
  have HR_ := Lib.hid (HR.out.below (bel_one HR.out.lt (.cells #[.int .i64 0, .int .i64 at_, .string ⟨#[]⟩, .int .i64 0, .string ⟨#[]⟩, .slice none 0 0, .string ⟨#[]⟩, .slice none 0 0, .int .i64 0, .slice none 0 0, .string ⟨#[]⟩, .slice none 0 0, .string ⟨#[]⟩, .string ⟨#[]⟩, .bool false, .int .i64 0, .string ⟨#[]⟩, .slice none 0 0, .slice none 0 0, .slice none 0 0, .slice none 0 0] 60)) (by omega))
  have HX_ := Lib.hid (HX.out.alloc (.cells #[.int .i64 0, .int .i64 at_, .string ⟨#[]⟩, .int .i64 0, .string ⟨#[]⟩, .slice none 0 0, .string ⟨#[]⟩, .slice none 0 0, .int .i64 0, .slice none 0 0, .string ⟨#[]⟩, .slice none 0 0, .string ⟨#[]⟩, .string ⟨#[]⟩, .bool false, .int .i64 0, .string ⟨#[]⟩, .slice none 0 0, .slice none 0 0, .slice none 0 0, .slice none 0 0] 60))
  have HY_ : Hid (Bx 60 (w2.alloc (.cells #[.int .i64 0, .int .i64 at_, .string ⟨#[]⟩, .int .i64 0, .string ⟨#[]⟩, .slice none 0 0, .string ⟨#[]⟩, .slice none 0 0, .int .i64 0, .slice none 0 0, .string ⟨#[]⟩, .slice none 0 0, .string ⟨#[]⟩, .string ⟨#[]⟩, .bool false, .int .i64 0, .string ⟨#[]⟩, .slice none 0 0, .slice none 0 0, .slice none 0 0, .slice none 0 0] 60)) w2.heap.size #[.int .i64 0, .int .i64 at_, .string ⟨#[]⟩, .int .i64 0, .string ⟨#[]⟩, .slice none 0 0, .string ⟨#[]⟩, .slice none 0 0, .int .i64 0, .slice none 0 0, .string ⟨#[]⟩, .slice none 0 0, .string ⟨#[]⟩, .string ⟨#[]⟩, .bool false, .int .i64 0, .string ⟨#[]⟩, .slice none 0 0, .slice none 0 0, .slice none 0 0, .slice none 0 0]) := Lib.hid (.newAt rfl)
  clear HG HR HX
  have HG := HG_
  have HR := HR_
  have HX := HX_
  clear HG_ HR_ HX_
  have HY := HY_
  clear HY_
  go_wp2_with (first
    | (with_reducible refine wpList_store_row (o := ⟨none, .store 60 (.tmp 5) (.tmp 9), _, _, _, _⟩) rfl 60 _ _ rfl (w2.heap.size) #[.int .i64 0, .int .i64 at_, .string ⟨#[]⟩, .int .i64 0, .string ⟨#[]⟩, .slice none 0 0, .string ⟨#[]⟩, .slice none 0 0, .int .i64 0, .slice none 0 0, .string ⟨#[]⟩, .slice none 0 0, .string ⟨#[]⟩, .string ⟨#[]⟩, .bool false, .int .i64 0, .string ⟨#[]⟩, .slice none 0 0, .slice none 0 0, .slice none 0 0, .slice none 0 0] rfl rfl 60 #[.int .i64 0, .int .i64 0, .string ⟨#[]⟩, .int .i64 0, .string ⟨#[]⟩, .slice none 0 0, .string ⟨#[]⟩, .slice none 0 0, .int .i64 0, .slice none 0 0, .string ⟨#[]⟩, .slice none 0 0, .string ⟨#[]⟩, .string ⟨#[]⟩, .bool false, .int .i64 0, .string ⟨#[]⟩, .slice none 0 0, .slice none 0 0, .slice none 0 0, .slice none 0 0] (heap_alloc_new w2 _) (by kernel_rfl) (by kernel_rfl) (by kernel_rfl) ?_
       rw [World.setRow_alloc_new]))
  generalize w2.alloc (.cells #[.int .i64 0, .int .i64 at_, .string ⟨#[]⟩, .int .i64 0, .string ⟨#[]⟩, .slice none 0 0, .string ⟨#[]⟩, .slice none 0 0, .int .i64 0, .slice none 0 0, .string ⟨#[]⟩, .slice none 0 0, .string ⟨#[]⟩, .string ⟨#[]⟩, .bool false, .int .i64 0, .string ⟨#[]⟩, .slice none 0 0, .slice none 0 0, .slice none 0 0, .slice none 0 0] 60) = w3 at *
  generalize w2.heap.size = m at *
  refine (opt_rd HR.out ⟨#[105, 102]⟩).mono ?_
  rintro e w4 ⟨hg, ⟨hw, rfl, hr⟩ | ⟨hw, rfl, hr⟩⟩
  · skip
    have HW1 := Lib.hid hw
    have HLT1 := Lib.hid (isW_pos hw)
    clear hw
    have HG_ := Lib.hid (World.grownBy.trans HG.out hg)
    have HR_ := Lib.hid hr
    have HX_ := Lib.hid (HX.out.kept hg (by omega))
    have HY_ := Lib.hid (HY.out.kept hg (by omega))
    have HS_ := Lib.hid (HS.out.kept hg)
    clear hg hr HG HR HX HY HS
    have HG := HG_
    have HR := HR_
    have HX := HX_
    have HY := HY_
    have HS := HS_
    clear HG_ HR_ HX_ HY_ HS_
    go_wp2_with fail
    refine (oper_rd HR.out).mono ?_
    rintro e w5 ⟨hg, ⟨o, us, v, hp, rfl, hv, hr, hle⟩ | ⟨er, at_, hp, rfl⟩⟩
    · skip
      obtain ⟨ob, on, om, ol, A, c, rfl, rfl, hl⟩ := hv.opr
      have hm3 := blk_lt HY.out
      have HO := Lib.hid (hl.low (m := m + 1) (by omega))
      clear hl hv hm3
      have HP2 := Lib.hid hp
      have HLE2 := Lib.hid hle
      clear hp hle
      have HG_ := Lib.hid (World.grownBy.trans HG.out hg)
      have HR_ := Lib.hid hr
      have HX_ := Lib.hid (HX.out.kept hg (by omega))
      have HY_ := Lib.hid (HY.out.kept hg (by omega))
      have HS_ := Lib.hid (HS.out.kept hg)
      clear hg hr HG HR HX HY HS
      have HG := HG_
      have HR := HR_
      have HX := HX_
      have HY := HY_
      have HS := HS_
      clear HG_ HR_ HX_ HY_ HS_
      clear HS
      obtain ⟨lHX, cHX, fHX⟩ := HX.out.see
      obtain ⟨lHY, cHY, fHY⟩ := HY.out.see
      have hne01 : (W.heap.size = m) = False := eq_false (by omega)
      have hne10 : (m = W.heap.size) = False := eq_false (by omega)
      have HPUT := Lib.hid (Put.set (Put.set (Put.set (Put.set (Put.set (Put.refl W.heap.size (m + 1) w5) (p := ⟨m, 0, none⟩) (by simp only; omega) (by simp only; omega) (.int .i64 2)) (p := ⟨m, 14, none⟩) (by simp only; omega) (by simp only; omega) (.bool ob)) (p := ⟨m, 15, none⟩) (by simp only; omega) (by simp only; omega) (.int .i64 on)) (p := ⟨m, 16, none⟩) (by simp only; omega) (by simp only; omega) (.string om)) (p := ⟨m, 17, none⟩) (by simp only; omega) (by simp only; omega) (.slice A ol.length c))
      have HG_ := Lib.hid (HPUT.out.grown HG.out (Nat.le_refl _))
      have HR_ := Lib.hid (HR.out.put HPUT.out hR)
      have HX_ := Lib.hid (((((HX.out.far (p := ⟨m, 0, none⟩) (by simp only; omega) (.int .i64 2)).far (p := ⟨m, 14, none⟩) (by simp only; omega) (.bool ob)).far (p := ⟨m, 15, none⟩) (by simp only; omega) (.int .i64 on)).far (p := ⟨m, 16, none⟩) (by simp only; omega) (.string om)).far (p := ⟨m, 17, none⟩) (by simp only; omega) (.slice A ol.length c))
      have HY_ : Hid (Bx 60 (((((w5.setCell ⟨m, 0, none⟩ (.int .i64 2)).setCell ⟨m, 14, none⟩ (.bool ob)).setCell ⟨m, 15, none⟩ (.int .i64 on)).setCell ⟨m, 16, none⟩ (.string om)).setCell ⟨m, 17, none⟩ (.slice A ol.length c)) m #[.int .i64 2, .int .i64 at_, .string ⟨#[]⟩, .int .i64 0, .string ⟨#[]⟩, .slice none 0 0, .string ⟨#[]⟩, .slice none 0 0, .int .i64 0, .slice none 0 0, .string ⟨#[]⟩, .slice none 0 0, .string ⟨#[]⟩, .string ⟨#[]⟩, .bool ob, .int .i64 on, .string om, .slice A ol.length c, .slice none 0 0, .slice none 0 0, .slice none 0 0]) := Lib.hid (by have h := (((((HY.out.set 0 (.int .i64 2)).set 14 (.bool ob)).set 15 (.int .i64 on)).set 16 (.string om)).set 17 (.slice A ol.length c)); simpa using h)
      have HO_ := Lib.hid (HO.out.put HPUT.out (by omega))
      clear HPUT HG HR HX HY HO
      have HG := HG_
      have HR := HR_
      have HX := HX_
      have HY := HY_
      have HO := HO_
      clear HG_ HR_ HX_ HY_ HO_
      go_wp2_with fail
      clear lHX cHX fHX lHY cHY fHY hne01 hne10
      generalize (((((w5.setCell ⟨m, 0, none⟩ (.int .i64 2)).setCell ⟨m, 14, none⟩ (.bool ob)).setCell ⟨m, 15, none⟩ (.int .i64 on)).setCell ⟨m, 16, none⟩ (.string om)).setCell ⟨m, 17, none⟩ (.slice A ol.length c)) = w6 at *
      refine (IH.out _ _ HR.out).mono ?_
      rintro e w7 ⟨hg, ⟨th, us2, v, hp, rfl, hv, hr, hle⟩ | ⟨er, at_, hp, rfl⟩⟩
      · skip
        obtain ⟨A6, c6, rfl⟩ := hv.slice
        rw [Stm.ds_length] at hv ⊢
        have hm3 := blk_lt HY.out
        have HT := Lib.hid (hv.low (m := m + 1) (by omega))
        clear hv hm3
        have HP3 := Lib.hid hp
        have HLE3 := Lib.hid hle
        clear hp hle
        have HG_ := Lib.hid (World.grownBy.trans HG.out hg)
        have HR_ := Lib.hid hr
        have HX_ := Lib.hid (HX.out.kept hg (by omega))
        have HY_ := Lib.hid (HY.out.kept hg (by omega))
        have HO_ := Lib.hid (HO.out.kept hg (by omega))
        clear hg hr HG HR HX HY HO
        have HG := HG_
        have HR := HR_
        have HX := HX_
        have HY := HY_
        have HO := HO_
        clear HG_ HR_ HX_ HY_ HO_
        obtain ⟨lHX, cHX, fHX⟩ := HX.out.see
        obtain ⟨lHY, cHY, fHY⟩ := HY.out.see
        have hne01 : (W.heap.size = m) = False := eq_false (by omega)
        have hne10 : (m = W.heap.size) = False := eq_false (by omega)
        have HPUT := Lib.hid (Put.set (Put.refl W.heap.size (m + 1) w7) (p := ⟨m, 18, none⟩) (by simp only; omega) (by simp only; omega) (.slice A6 th.length c6))
        have HG_ := Lib.hid (HPUT.out.grown HG.out (Nat.le_refl _))
        have HR_ := Lib.hid (HR.out.put HPUT.out hR)
        have HX_ := Lib.hid (HX.out.far (p := ⟨m, 18, none⟩) (by simp only; omega) (.slice A6 th.length c6))
        have HY_ : Hid (Bx 60 (w7.setCell ⟨m, 18, none⟩ (.slice A6 th.length c6)) m #[.int .i64 2, .int .i64 at_, .string ⟨#[]⟩, .int .i64 0, .string ⟨#[]⟩, .slice none 0 0, .string ⟨#[]⟩, .slice none 0 0, .int .i64 0, .slice none 0 0, .string ⟨#[]⟩, .slice none 0 0, .string ⟨#[]⟩, .string ⟨#[]⟩, .bool ob, .int .i64 on, .string om, .slice A ol.length c, .slice A6 th.length c6, .slice none 0 0, .slice none 0 0]) := Lib.hid (by have h := (HY.out.set 18 (.slice A6 th.length c6)); simpa using h)
        have HO_ := Lib.hid (HO.out.put HPUT.out (by omega))
        have HT_ := Lib.hid (HT.out.put HPUT.out (by omega))
        clear HPUT HG HR HX HY HO HT
        have HG := HG_
        have HR := HR_
        have HX := HX_
        have HY := HY_
        have HO := HO_
        have HT := HT_
        clear HG_ HR_ HX_ HY_ HO_ HT_
        go_wp2_with fail
        clear lHX cHX fHX lHY cHY fHY hne01 hne10
        generalize (w7.setCell ⟨m, 18, none⟩ (.slice A6 th.length c6)) = w8 at *
        refine (opt_rd HR.out ⟨#[101, 108, 115, 101]⟩).mono ?_
        rintro e w9 ⟨hg, ⟨hw, rfl, hr⟩ | ⟨hw, rfl, hr⟩⟩
        · skip
          have HW4 := Lib.hid hw
          have HLT4 := Lib.hid (isW_pos hw)
          clear hw
          have HG_ := Lib.hid (World.grownBy.trans HG.out hg)
          have HR_ := Lib.hid hr
          have HX_ := Lib.hid (HX.out.kept hg (by omega))
          have HY_ := Lib.hid (HY.out.kept hg (by omega))
          have HO_ := Lib.hid (HO.out.kept hg (by omega))
          have HT_ := Lib.hid (HT.out.kept hg (by omega))
          clear hg hr HG HR HX HY HO HT
          have HG := HG_
          have HR := HR_
          have HX := HX_
          have HY := HY_
          have HO := HO_
          have HT := HT_
          clear HG_ HR_ HX_ HY_ HO_ HT_
          go_wp2_with fail
          refine (IH.out _ _ HR.out).mono ?_
          rintro e w10 ⟨hg, ⟨el, us3, v, hp, rfl, hv, hr, hle⟩ | ⟨er, at_, hp, rfl⟩⟩
          · skip
            obtain ⟨A7, cA7, rfl⟩ := hv.slice
            rw [Stm.ds_length] at hv ⊢
            have hm3 := blk_lt HY.out
            have HE := Lib.hid (hv.low (m := m + 1) (by omega))
            clear hv hm3
            have HP5 := Lib.hid hp
            have HLE5 := Lib.hid hle
            clear hp hle
            have HG_ := Lib.hid (World.grownBy.trans HG.out hg)
            have HR_ := Lib.hid hr
            have HX_ := Lib.hid (HX.out.kept hg (by omega))
            have HY_ := Lib.hid (HY.out.kept hg (by omega))
            have HO_ := Lib.hid (HO.out.kept hg (by omega))
            have HT_ := Lib.hid (HT.out.kept hg (by omega))
            clear hg hr HG HR HX HY HO HT
            have HG := HG_
            have HR := HR_
            have HX := HX_
            have HY := HY_
            have HO := HO_
            have HT := HT_
            clear HG_ HR_ HX_ HY_ HO_ HT_
            have HPF : Hid ((stmtP (blockP k)) ts = .ok (.mk 2 at_ noB .zero .zero .zero ⟨ob, on, ⟨om, ol⟩⟩ th el [], us3)) := Lib.hid (by rw [stmtP, ← HAT.out, stmtQ, optE_t HW1.out, Ps.bd_ok HP2.out, Ps.bd_ok HP3.out, optE_t HW4.out, Ps.bd_ok HP5.out]; exact rfl)
            have HPUT : ∀ w', Put W.heap.size (m + 1) w10 w' → Does (stmtP (blockP k)) (Leads W Stm.d) W R ts (.returned (.agg #[.int .i64 2, .int .i64 at_, .string ⟨#[]⟩, .int .i64 0, .string ⟨#[]⟩, .slice none 0 0, .string ⟨#[]⟩, .slice none 0 0, .int .i64 0, .slice none 0 0, .string ⟨#[]⟩, .slice none 0 0, .string ⟨#[]⟩, .string ⟨#[]⟩, .bool ob, .int .i64 on, .string om, .slice A ol.length c, .slice A6 th.length c6, .slice A7 el.length cA7, .slice none 0 0])) w' := fun w' hput => ⟨hput.grown HG.out (Nat.le_refl _), .inl ⟨.mk 2 at_ noB .zero .zero .zero ⟨ob, on, ⟨om, ol⟩⟩ th el [], us3, _, HPF.out, rfl, ⟨_, rfl, stm_rds (by simp only [Ty.ds]; exact (Rd.nil _ _ _ _)) (Rd.nil _ _ _ _) (Rd.nil _ _ _ _) (Rd.nil _ _ _ _) ((HO.out.put hput (Nat.le_refl _)).low (by omega)) ((HT.out.put hput (Nat.le_refl _)).low (by omega)) ((HE.out.put hput (Nat.le_refl _)).low (by omega)) (by simp only [Arm.ds]; exact (Rd.nil _ _ _ _))⟩, HR.out.put hput hR, by have := HLT1.out; have := HLE2.out; have := HLE3.out; have := HLT4.out; have := HLE5.out; first | omega | (simp at *; done) | (simp at *; omega)⟩⟩
            have hyo : (w10.setCell ⟨m, 19, none⟩ (.slice A7 el.length cA7)).heap[m]? = some (.cells #[.int .i64 2, .int .i64 at_, .string ⟨#[]⟩, .int .i64 0, .string ⟨#[]⟩, .slice none 0 0, .string ⟨#[]⟩, .slice none 0 0, .int .i64 0, .slice none 0 0, .string ⟨#[]⟩, .slice none 0 0, .string ⟨#[]⟩, .string ⟨#[]⟩, .bool ob, .int .i64 on, .string om, .slice A ol.length c, .slice A6 th.length c6, .slice A7 el.length cA7, .slice none 0 0] 60 (0, 0)) := (by have h : Bx 60 (w10.setCell ⟨m, 19, none⟩ (.slice A7 el.length cA7)) m _ := (Bx.set HY.out 19 (.slice A7 el.length cA7)); simpa [Bx] using h)
            have hxo : (w10.setCell ⟨m, 19, none⟩ (.slice A7 el.length cA7)).heap[W.heap.size]? = some (.cells #[.int .i64 0, .int .i64 0, .string ⟨#[]⟩, .int .i64 0, .string ⟨#[]⟩, .slice none 0 0, .string ⟨#[]⟩, .slice none 0 0, .int .i64 0, .slice none 0 0, .string ⟨#[]⟩, .slice none 0 0, .string ⟨#[]⟩, .string ⟨#[]⟩, .bool false, .int .i64 0, .string ⟨#[]⟩, .slice none 0 0, .slice none 0 0, .slice none 0 0, .slice none 0 0] 60 (0, 0)) := (Bx.far HX.out (p := ⟨m, 19, none⟩) (by simp only; omega) (.slice A7 el.length cA7))
            have hpt : Put W.heap.size (m + 1) w10 (w10.setCell ⟨m, 19, none⟩ (.slice A7 el.length cA7)) := ((Put.refl W.heap.size (m + 1) w10).set (p := ⟨m, 19, none⟩) (by simp only; omega) (by simp only; omega) (.slice A7 el.length cA7))
            obtain ⟨lHY, cHY, fHY⟩ := HY.out.see
            go_wp2_with (first
              | (with_reducible refine wpList_load_row (o := ⟨some 29, .load 60 (.tmp 5), _, _, _, _⟩) rfl 60 _ rfl (m) rfl 60 #[.int .i64 2, .int .i64 at_, .string ⟨#[]⟩, .int .i64 0, .string ⟨#[]⟩, .slice none 0 0, .string ⟨#[]⟩, .slice none 0 0, .int .i64 0, .slice none 0 0, .string ⟨#[]⟩, .slice none 0 0, .string ⟨#[]⟩, .string ⟨#[]⟩, .bool ob, .int .i64 on, .string om, .slice A ol.length c, .slice A6 th.length c6, .slice A7 el.length cA7, .slice none 0 0] (0, 0) _ hyo Tryz.underlying60 (by kernel_rfl) (by kernel_rfl) ?_)
              | (with_reducible refine wpList_store_row (o := ⟨none, .store 60 (.tmp 4) (.tmp 29), _, _, _, _⟩) rfl 60 _ _ rfl (W.heap.size) #[.int .i64 2, .int .i64 at_, .string ⟨#[]⟩, .int .i64 0, .string ⟨#[]⟩, .slice none 0 0, .string ⟨#[]⟩, .slice none 0 0, .int .i64 0, .slice none 0 0, .string ⟨#[]⟩, .slice none 0 0, .string ⟨#[]⟩, .string ⟨#[]⟩, .bool ob, .int .i64 on, .string om, .slice A ol.length c, .slice A6 th.length c6, .slice A7 el.length cA7, .slice none 0 0] rfl rfl 60 #[.int .i64 0, .int .i64 0, .string ⟨#[]⟩, .int .i64 0, .string ⟨#[]⟩, .slice none 0 0, .string ⟨#[]⟩, .slice none 0 0, .int .i64 0, .slice none 0 0, .string ⟨#[]⟩, .slice none 0 0, .string ⟨#[]⟩, .string ⟨#[]⟩, .bool false, .int .i64 0, .string ⟨#[]⟩, .slice none 0 0, .slice none 0 0, .slice none 0 0, .slice none 0 0] (hxo) (by kernel_rfl) (by kernel_rfl) (by kernel_rfl) ?_))
            refine bodyPost_ret (results_cell_row rfl _ _ W.heap.size 60 #[.int .i64 2, .int .i64 at_, .string ⟨#[]⟩, .int .i64 0, .string ⟨#[]⟩, .slice none 0 0, .string ⟨#[]⟩, .slice none 0 0, .int .i64 0, .slice none 0 0, .string ⟨#[]⟩, .slice none 0 0, .string ⟨#[]⟩, .string ⟨#[]⟩, .bool ob, .int .i64 on, .string om, .slice A ol.length c, .slice A6 th.length c6, .slice A7 el.length cA7, .slice none 0 0] (0, 0) _ rfl (setRow_heap _ _ _ _ _ _ hxo) Tryz.underlying60 rfl (by kernel_rfl)) rfl (HPUT _ ?_)
            exact hpt.row (Nat.le_refl _) (by omega) _
          · go_wp2_with fail
            exact ⟨rfl, World.grownBy.trans HG.out hg, .inr ⟨er, at_, (by rw [stmtP, ← HAT.out, stmtQ, optE_t HW1.out, Ps.bd_ok HP2.out, Ps.bd_ok HP3.out, optE_t HW4.out]; exact Ps.bd_err hp), rfl⟩⟩
        · skip
          have HW4 := Lib.hid hw
          clear hw
          have HG_ := Lib.hid (World.grownBy.trans HG.out hg)
          have HR_ := Lib.hid hr
          have HX_ := Lib.hid (HX.out.kept hg (by omega))
          have HY_ := Lib.hid (HY.out.kept hg (by omega))
          have HO_ := Lib.hid (HO.out.kept hg (by omega))
          have HT_ := Lib.hid (HT.out.kept hg (by omega))
          clear hg hr HG HR HX HY HO HT
          have HG := HG_
          have HR := HR_
          have HX := HX_
          have HY := HY_
          have HO := HO_
          have HT := HT_
          clear HG_ HR_ HX_ HY_ HO_ HT_
          have HPF : Hid ((stmtP (blockP k)) ts = .ok (.mk 2 at_ noB .zero .zero .zero ⟨ob, on, ⟨om, ol⟩⟩ th [] [], us2)) := Lib.hid (by rw [stmtP, ← HAT.out, stmtQ, optE_t HW1.out, Ps.bd_ok HP2.out, Ps.bd_ok HP3.out, optE_f HW4.out]; exact rfl)
          have HPUT : ∀ w', Put W.heap.size (m + 1) w9 w' → Does (stmtP (blockP k)) (Leads W Stm.d) W R ts (.returned (.agg #[.int .i64 2, .int .i64 at_, .string ⟨#[]⟩, .int .i64 0, .string ⟨#[]⟩, .slice none 0 0, .string ⟨#[]⟩, .slice none 0 0, .int .i64 0, .slice none 0 0, .string ⟨#[]⟩, .slice none 0 0, .string ⟨#[]⟩, .string ⟨#[]⟩, .bool ob, .int .i64 on, .string om, .slice A ol.length c, .slice A6 th.length c6, .slice none 0 0, .slice none 0 0])) w' := fun w' hput => ⟨hput.grown HG.out (Nat.le_refl _), .inl ⟨.mk 2 at_ noB .zero .zero .zero ⟨ob, on, ⟨om, ol⟩⟩ th [] [], us2, _, HPF.out, rfl, ⟨_, rfl, stm_rds (by simp only [Ty.ds]; exact (Rd.nil _ _ _ _)) (Rd.nil _ _ _ _) (Rd.nil _ _ _ _) (Rd.nil _ _ _ _) ((HO.out.put hput (Nat.le_refl _)).low (by omega)) ((HT.out.put hput (Nat.le_refl _)).low (by omega)) (by simp only [Stm.ds]; exact (Rd.nil _ _ _ _)) (by simp only [Arm.ds]; exact (Rd.nil _ _ _ _))⟩, HR.out.put hput hR, by have := HLT1.out; have := HLE2.out; have := HLE3.out; first | omega | (simp at *; done) | (simp at *; omega)⟩⟩
          have hyo : w9.heap[m]? = some (.cells #[.int .i64 2, .int .i64 at_, .string ⟨#[]⟩, .int .i64 0, .string ⟨#[]⟩, .slice none 0 0, .string ⟨#[]⟩, .slice none 0 0, .int .i64 0, .slice none 0 0, .string ⟨#[]⟩, .slice none 0 0, .string ⟨#[]⟩, .string ⟨#[]⟩, .bool ob, .int .i64 on, .string om, .slice A ol.length c, .slice A6 th.length c6, .slice none 0 0, .slice none 0 0] 60 (0, 0)) := HY.out
          have hxo : w9.heap[W.heap.size]? = some (.cells #[.int .i64 0, .int .i64 0, .string ⟨#[]⟩, .int .i64 0, .string ⟨#[]⟩, .slice none 0 0, .string ⟨#[]⟩, .slice none 0 0, .int .i64 0, .slice none 0 0, .string ⟨#[]⟩, .slice none 0 0, .string ⟨#[]⟩, .string ⟨#[]⟩, .bool false, .int .i64 0, .string ⟨#[]⟩, .slice none 0 0, .slice none 0 0, .slice none 0 0, .slice none 0 0] 60 (0, 0)) := HX.out
          have hpt : Put W.heap.size (m + 1) w9 w9 := (Put.refl W.heap.size (m + 1) w9)
          go_wp2_with (first
            | (with_reducible refine wpList_load_row (o := ⟨some 29, .load 60 (.tmp 5), _, _, _, _⟩) rfl 60 _ rfl (m) rfl 60 #[.int .i64 2, .int .i64 at_, .string ⟨#[]⟩, .int .i64 0, .string ⟨#[]⟩, .slice none 0 0, .string ⟨#[]⟩, .slice none 0 0, .int .i64 0, .slice none 0 0, .string ⟨#[]⟩, .slice none 0 0, .string ⟨#[]⟩, .string ⟨#[]⟩, .bool ob, .int .i64 on, .string om, .slice A ol.length c, .slice A6 th.length c6, .slice none 0 0, .slice none 0 0] (0, 0) _ hyo Tryz.underlying60 (by kernel_rfl) (by kernel_rfl) ?_)
            | (with_reducible refine wpList_store_row (o := ⟨none, .store 60 (.tmp 4) (.tmp 29), _, _, _, _⟩) rfl 60 _ _ rfl (W.heap.size) #[.int .i64 2, .int .i64 at_, .string ⟨#[]⟩, .int .i64 0, .string ⟨#[]⟩, .slice none 0 0, .string ⟨#[]⟩, .slice none 0 0, .int .i64 0, .slice none 0 0, .string ⟨#[]⟩, .slice none 0 0, .string ⟨#[]⟩, .string ⟨#[]⟩, .bool ob, .int .i64 on, .string om, .slice A ol.length c, .slice A6 th.length c6, .slice none 0 0, .slice none 0 0] rfl rfl 60 #[.int .i64 0, .int .i64 0, .string ⟨#[]⟩, .int .i64 0, .string ⟨#[]⟩, .slice none 0 0, .string ⟨#[]⟩, .slice none 0 0, .int .i64 0, .slice none 0 0, .string ⟨#[]⟩, .slice none 0 0, .string ⟨#[]⟩, .string ⟨#[]⟩, .bool false, .int .i64 0, .string ⟨#[]⟩, .slice none 0 0, .slice none 0 0, .slice none 0 0, .slice none 0 0] (hxo) (by kernel_rfl) (by kernel_rfl) (by kernel_rfl) ?_))
          refine bodyPost_ret (results_cell_row rfl _ _ W.heap.size 60 #[.int .i64 2, .int .i64 at_, .string ⟨#[]⟩, .int .i64 0, .string ⟨#[]⟩, .slice none 0 0, .string ⟨#[]⟩, .slice none 0 0, .int .i64 0, .slice none 0 0, .string ⟨#[]⟩, .slice none 0 0, .string ⟨#[]⟩, .string ⟨#[]⟩, .bool ob, .int .i64 on, .string om, .slice A ol.length c, .slice A6 th.length c6, .slice none 0 0, .slice none 0 0] (0, 0) _ rfl (setRow_heap _ _ _ _ _ _ hxo) Tryz.underlying60 rfl (by kernel_rfl)) rfl (HPUT _ ?_)
          exact hpt.row (Nat.le_refl _) (by omega) _
      · go_wp2_with fail
        exact ⟨rfl, World.grownBy.trans HG.out hg, .inr ⟨er, at_, (by rw [stmtP, ← HAT.out, stmtQ, optE_t HW1.out, Ps.bd_ok HP2.out]; exact Ps.bd_err hp), rfl⟩⟩
    · go_wp2_with fail
      exact ⟨rfl, World.grownBy.trans HG.out hg, .inr ⟨er, at_, (by rw [stmtP, ← HAT.out, stmtQ, optE_t HW1.out]; exact Ps.bd_err hp), rfl⟩⟩
  · skip
    have HW1 := Lib.hid hw
    clear hw
    have HG_ := Lib.hid (World.grownBy.trans HG.out hg)
    have HR_ := Lib.hid hr
    have HX_ := Lib.hid (HX.out.kept hg (by omega))
    have HY_ := Lib.hid (HY.out.kept hg (by omega))
    have HS_ := Lib.hid (HS.out.kept hg)
    clear hg hr HG HR HX HY HS
    have HG := HG_
    have HR := HR_
    have HX := HX_
    have HY := HY_
    have HS := HS_
    clear HG_ HR_ HX_ HY_ HS_
    go_wp2_with fail
    refine (opt_rd HR.out ⟨#[119, 104, 105, 108, 101]⟩).mono ?_
    rintro e w11 ⟨hg, ⟨hw, rfl, hr⟩ | ⟨hw, rfl, hr⟩⟩
    · skip
      have HW6 := Lib.hid hw
      have HLT6 := Lib.hid (isW_pos hw)
      clear hw
      have HG_ := Lib.hid (World.grownBy.trans HG.out hg)
      have HR_ := Lib.hid hr
      have HX_ := Lib.hid (HX.out.kept hg (by omega))
      have HY_ := Lib.hid (HY.out.kept hg (by omega))
      have HS_ := Lib.hid (HS.out.kept hg)
      clear hg hr HG HR HX HY HS
      have HG := HG_
      have HR := HR_
      have HX := HX_
      have HY := HY_
      have HS := HS_
      clear HG_ HR_ HX_ HY_ HS_
      go_wp2_with fail
      refine (oper_rd HR.out).mono ?_
      rintro e w12 ⟨hg, ⟨o, us, v, hp, rfl, hv, hr, hle⟩ | ⟨er, at_, hp, rfl⟩⟩
      · skip
        obtain ⟨ob, on, om, ol, A, c, rfl, rfl, hl⟩ := hv.opr
        have hm3 := blk_lt HY.out
        have HO := Lib.hid (hl.low (m := m + 1) (by omega))
        clear hl hv hm3
        have HP7 := Lib.hid hp
        have HLE7 := Lib.hid hle
        clear hp hle
        have HG_ := Lib.hid (World.grownBy.trans HG.out hg)
        have HR_ := Lib.hid hr
        have HX_ := Lib.hid (HX.out.kept hg (by omega))
        have HY_ := Lib.hid (HY.out.kept hg (by omega))
        have HS_ := Lib.hid (HS.out.kept hg)
        clear hg hr HG HR HX HY HS
        have HG := HG_
        have HR := HR_
        have HX := HX_
        have HY := HY_
        have HS := HS_
        clear HG_ HR_ HX_ HY_ HS_
        clear HS
        obtain ⟨lHX, cHX, fHX⟩ := HX.out.see
        obtain ⟨lHY, cHY, fHY⟩ := HY.out.see
        have hne01 : (W.heap.size = m) = False := eq_false (by omega)
        have hne10 : (m = W.heap.size) = False := eq_false (by omega)
        have HPUT := Lib.hid (Put.set (Put.set (Put.set (Put.set (Put.set (Put.refl W.heap.size (m + 1) w12) (p := ⟨m, 0, none⟩) (by simp only; omega) (by simp only; omega) (.int .i64 3)) (p := ⟨m, 14, none⟩) (by simp only; omega) (by simp only; omega) (.bool ob)) (p := ⟨m, 15, none⟩) (by simp only; omega) (by simp only; omega) (.int .i64 on)) (p := ⟨m, 16, none⟩) (by simp only; omega) (by simp only; omega) (.string om)) (p := ⟨m, 17, none⟩) (by simp only; omega) (by simp only; omega) (.slice A ol.length c))
        have HG_ := Lib.hid (HPUT.out.grown HG.out (Nat.le_refl _))
        have HR_ := Lib.hid (HR.out.put HPUT.out hR)
        have HX_ := Lib.hid (((((HX.out.far (p := ⟨m, 0, none⟩) (by simp only; omega) (.int .i64 3)).far (p := ⟨m, 14, none⟩) (by simp only; omega) (.bool ob)).far (p := ⟨m, 15, none⟩) (by simp only; omega) (.int .i64 on)).far (p := ⟨m, 16, none⟩) (by simp only; omega) (.string om)).far (p := ⟨m, 17, none⟩) (by simp only; omega) (.slice A ol.length c))
        have HY_ : Hid (Bx 60 (((((w12.setCell ⟨m, 0, none⟩ (.int .i64 3)).setCell ⟨m, 14, none⟩ (.bool ob)).setCell ⟨m, 15, none⟩ (.int .i64 on)).setCell ⟨m, 16, none⟩ (.string om)).setCell ⟨m, 17, none⟩ (.slice A ol.length c)) m #[.int .i64 3, .int .i64 at_, .string ⟨#[]⟩, .int .i64 0, .string ⟨#[]⟩, .slice none 0 0, .string ⟨#[]⟩, .slice none 0 0, .int .i64 0, .slice none 0 0, .string ⟨#[]⟩, .slice none 0 0, .string ⟨#[]⟩, .string ⟨#[]⟩, .bool ob, .int .i64 on, .string om, .slice A ol.length c, .slice none 0 0, .slice none 0 0, .slice none 0 0]) := Lib.hid (by have h := (((((HY.out.set 0 (.int .i64 3)).set 14 (.bool ob)).set 15 (.int .i64 on)).set 16 (.string om)).set 17 (.slice A ol.length c)); simpa using h)
        have HO_ := Lib.hid (HO.out.put HPUT.out (by omega))
        clear HPUT HG HR HX HY HO
        have HG := HG_
        have HR := HR_
        have HX := HX_
        have HY := HY_
        have HO := HO_
        clear HG_ HR_ HX_ HY_ HO_
        go_wp2_with fail
        clear lHX cHX fHX lHY cHY fHY hne01 hne10
        generalize (((((w12.setCell ⟨m, 0, none⟩ (.int .i64 3)).setCell ⟨m, 14, none⟩ (.bool ob)).setCell ⟨m, 15, none⟩ (.int .i64 on)).setCell ⟨m, 16, none⟩ (.string om)).setCell ⟨m, 17, none⟩ (.slice A ol.length c)) = w13 at *
        refine (IH.out _ _ HR.out).mono ?_
        rintro e w14 ⟨hg, ⟨th, us2, v, hp, rfl, hv, hr, hle⟩ | ⟨er, at_, hp, rfl⟩⟩
        · skip
          obtain ⟨A6, c6, rfl⟩ := hv.slice
          rw [Stm.ds_length] at hv ⊢
          have hm3 := blk_lt HY.out
          have HT := Lib.hid (hv.low (m := m + 1) (by omega))
          clear hv hm3
          have HP8 := Lib.hid hp
          have HLE8 := Lib.hid hle
          clear hp hle
          have HG_ := Lib.hid (World.grownBy.trans HG.out hg)
          have HR_ := Lib.hid hr
          have HX_ := Lib.hid (HX.out.kept hg (by omega))
          have HY_ := Lib.hid (HY.out.kept hg (by omega))
          have HO_ := Lib.hid (HO.out.kept hg (by omega))
          clear hg hr HG HR HX HY HO
          have HG := HG_
          have HR := HR_
          have HX := HX_
          have HY := HY_
          have HO := HO_
          clear HG_ HR_ HX_ HY_ HO_
          have HPF : Hid ((stmtP (blockP k)) ts = .ok (.mk 3 at_ noB .zero .zero .zero ⟨ob, on, ⟨om, ol⟩⟩ th [] [], us2)) := Lib.hid (by rw [stmtP, ← HAT.out, stmtQ, optE_f HW1.out, optE_t HW6.out, Ps.bd_ok HP7.out, Ps.bd_ok HP8.out]; exact rfl)
          have HPUT : ∀ w', Put W.heap.size (m + 1) w14 w' → Does (stmtP (blockP k)) (Leads W Stm.d) W R ts (.returned (.agg #[.int .i64 3, .int .i64 at_, .string ⟨#[]⟩, .int .i64 0, .string ⟨#[]⟩, .slice none 0 0, .string ⟨#[]⟩, .slice none 0 0, .int .i64 0, .slice none 0 0, .string ⟨#[]⟩, .slice none 0 0, .string ⟨#[]⟩, .string ⟨#[]⟩, .bool ob, .int .i64 on, .string om, .slice A ol.length c, .slice A6 th.length c6, .slice none 0 0, .slice none 0 0])) w' := fun w' hput => ⟨hput.grown HG.out (Nat.le_refl _), .inl ⟨.mk 3 at_ noB .zero .zero .zero ⟨ob, on, ⟨om, ol⟩⟩ th [] [], us2, _, HPF.out, rfl, ⟨_, rfl, stm_rds (by simp only [Ty.ds]; exact (Rd.nil _ _ _ _)) (Rd.nil _ _ _ _) (Rd.nil _ _ _ _) (Rd.nil _ _ _ _) ((HO.out.put hput (Nat.le_refl _)).low (by omega)) ((HT.out.put hput (Nat.le_refl _)).low (by omega)) (by simp only [Stm.ds]; exact (Rd.nil _ _ _ _)) (by simp only [Arm.ds]; exact (Rd.nil _ _ _ _))⟩, HR.out.put hput hR, by have := HLT6.out; have := HLE7.out; have := HLE8.out; first | omega | (simp at *; done) | (simp at *; omega)⟩⟩
          have hyo : (w14.setCell ⟨m, 18, none⟩ (.slice A6 th.length c6)).heap[m]? = some (.cells #[.int .i64 3, .int .i64 at_, .string ⟨#[]⟩, .int .i64 0, .string ⟨#[]⟩, .slice none 0 0, .string ⟨#[]⟩, .slice none 0 0, .int .i64 0, .slice none 0 0, .string ⟨#[]⟩, .slice none 0 0, .string ⟨#[]⟩, .string ⟨#[]⟩, .bool ob, .int .i64 on, .string om, .slice A ol.length c, .slice A6 th.length c6, .slice none 0 0, .slice none 0 0] 60 (0, 0)) := (by have h : Bx 60 (w14.setCell ⟨m, 18, none⟩ (.slice A6 th.length c6)) m _ := (Bx.set HY.out 18 (.slice A6 th.length c6)); simpa [Bx] using h)
          have hxo : (w14.setCell ⟨m, 18, none⟩ (.slice A6 th.length c6)).heap[W.heap.size]? = some (.cells #[.int .i64 0, .int .i64 0, .string ⟨#[]⟩, .int .i64 0, .string ⟨#[]⟩, .slice none 0 0, .string ⟨#[]⟩, .slice none 0 0, .int .i64 0, .slice none 0 0, .string ⟨#[]⟩, .slice none 0 0, .string ⟨#[]⟩, .string ⟨#[]⟩, .bool false, .int .i64 0, .string ⟨#[]⟩, .slice none 0 0, .slice none 0 0, .slice none 0 0, .slice none 0 0] 60 (0, 0)) := (Bx.far HX.out (p := ⟨m, 18, none⟩) (by simp only; omega) (.slice A6 th.length c6))
          have hpt : Put W.heap.size (m + 1) w14 (w14.setCell ⟨m, 18, none⟩ (.slice A6 th.length c6)) := ((Put.refl W.heap.size (m + 1) w14).set (p := ⟨m, 18, none⟩) (by simp only; omega) (by simp only; omega) (.slice A6 th.length c6))
          obtain ⟨lHY, cHY, fHY⟩ := HY.out.see
          go_wp2_with (first
            | (with_reducible refine wpList_load_row (o := ⟨some 42, .load 60 (.tmp 5), _, _, _, _⟩) rfl 60 _ rfl (m) rfl 60 #[.int .i64 3, .int .i64 at_, .string ⟨#[]⟩, .int .i64 0, .string ⟨#[]⟩, .slice none 0 0, .string ⟨#[]⟩, .slice none 0 0, .int .i64 0, .slice none 0 0, .string ⟨#[]⟩, .slice none 0 0, .string ⟨#[]⟩, .string ⟨#[]⟩, .bool ob, .int .i64 on, .string om, .slice A ol.length c, .slice A6 th.length c6, .slice none 0 0, .slice none 0 0] (0, 0) _ hyo Tryz.underlying60 (by kernel_rfl) (by kernel_rfl) ?_)
            | (with_reducible refine wpList_store_row (o := ⟨none, .store 60 (.tmp 4) (.tmp 42), _, _, _, _⟩) rfl 60 _ _ rfl (W.heap.size) #[.int .i64 3, .int .i64 at_, .string ⟨#[]⟩, .int .i64 0, .string ⟨#[]⟩, .slice none 0 0, .string ⟨#[]⟩, .slice none 0 0, .int .i64 0, .slice none 0 0, .string ⟨#[]⟩, .slice none 0 0, .string ⟨#[]⟩, .string ⟨#[]⟩, .bool ob, .int .i64 on, .string om, .slice A ol.length c, .slice A6 th.length c6, .slice none 0 0, .slice none 0 0] rfl rfl 60 #[.int .i64 0, .int .i64 0, .string ⟨#[]⟩, .int .i64 0, .string ⟨#[]⟩, .slice none 0 0, .string ⟨#[]⟩, .slice none 0 0, .int .i64 0, .slice none 0 0, .string ⟨#[]⟩, .slice none 0 0, .string ⟨#[]⟩, .string ⟨#[]⟩, .bool false, .int .i64 0, .string ⟨#[]⟩, .slice none 0 0, .slice none 0 0, .slice none 0 0, .slice none 0 0] (hxo) (by kernel_rfl) (by kernel_rfl) (by kernel_rfl) ?_))
          refine bodyPost_ret (results_cell_row rfl _ _ W.heap.size 60 #[.int .i64 3, .int .i64 at_, .string ⟨#[]⟩, .int .i64 0, .string ⟨#[]⟩, .slice none 0 0, .string ⟨#[]⟩, .slice none 0 0, .int .i64 0, .slice none 0 0, .string ⟨#[]⟩, .slice none 0 0, .string ⟨#[]⟩, .string ⟨#[]⟩, .bool ob, .int .i64 on, .string om, .slice A ol.length c, .slice A6 th.length c6, .slice none 0 0, .slice none 0 0] (0, 0) _ rfl (setRow_heap _ _ _ _ _ _ hxo) Tryz.underlying60 rfl (by kernel_rfl)) rfl (HPUT _ ?_)
          exact hpt.row (Nat.le_refl _) (by omega) _
        · go_wp2_with fail
          exact ⟨rfl, World.grownBy.trans HG.out hg, .inr ⟨er, at_, (by rw [stmtP, ← HAT.out, stmtQ, optE_f HW1.out, optE_t HW6.out, Ps.bd_ok HP7.out]; exact Ps.bd_err hp), rfl⟩⟩
      · go_wp2_with fail
        exact ⟨rfl, World.grownBy.trans HG.out hg, .inr ⟨er, at_, (by rw [stmtP, ← HAT.out, stmtQ, optE_f HW1.out, optE_t HW6.out]; exact Ps.bd_err hp), rfl⟩⟩
    · skip
      have HW6 := Lib.hid hw
      clear hw
      have HG_ := Lib.hid (World.grownBy.trans HG.out hg)
      have HR_ := Lib.hid hr
      have HX_ := Lib.hid (HX.out.kept hg (by omega))
      have HY_ := Lib.hid (HY.out.kept hg (by omega))
      have HS_ := Lib.hid (HS.out.kept hg)
      clear hg hr HG HR HX HY HS
      have HG := HG_
      have HR := HR_
      have HX := HX_
      have HY := HY_
      have HS := HS_
      clear HG_ HR_ HX_ HY_ HS_
      go_wp2_with fail
      refine (opt_rd HR.out ⟨#[109, 97, 116, 99, 104]⟩).mono ?_
      rintro e w15 ⟨hg, ⟨hw, rfl, hr⟩ | ⟨hw, rfl, hr⟩⟩
      · skip
        have HW9 := Lib.hid hw
        have HLT9 := Lib.hid (isW_pos hw)
        clear hw
        have HG_ := Lib.hid (World.grownBy.trans HG.out hg)
        have HR_ := Lib.hid hr
        have HX_ := Lib.hid (HX.out.kept hg (by omega))
        have HY_ := Lib.hid (HY.out.kept hg (by omega))
        have HS_ := Lib.hid (HS.out.kept hg)
        clear hg hr HG HR HX HY HS
        have HG := HG_
        have HR := HR_
        have HX := HX_
        have HY := HY_
        have HS := HS_
        clear HG_ HR_ HX_ HY_ HS_
        go_wp2_with fail
        refine (bare_rd HR.out).mono ?_
        rintro e w16 ⟨hg, ⟨p, us, v, hp, rfl, hv, hr, hle⟩ | ⟨er, at_, hp, rfl⟩⟩
        · skip
          obtain ⟨qn, ql, A, c, rfl, rfl, hl⟩ := hv.plc
          have hm3 := blk_lt HY.out
          have HQ := Lib.hid (hl.low (m := m + 1) (by omega))
          clear hl hv hm3
          have HP10 := Lib.hid hp
          have HLE10 := Lib.hid hle
          clear hp hle
          have HG_ := Lib.hid (World.grownBy.trans HG.out hg)
          have HR_ := Lib.hid hr
          have HX_ := Lib.hid (HX.out.kept hg (by omega))
          have HY_ := Lib.hid (HY.out.kept hg (by omega))
          have HS_ := Lib.hid (HS.out.kept hg)
          clear hg hr HG HR HX HY HS
          have HG := HG_
          have HR := HR_
          have HX := HX_
          have HY := HY_
          have HS := HS_
          clear HG_ HR_ HX_ HY_ HS_
          clear HS
          obtain ⟨lHX, cHX, fHX⟩ := HX.out.see
          obtain ⟨lHY, cHY, fHY⟩ := HY.out.see
          have hne01 : (W.heap.size = m) = False := eq_false (by omega)
          have hne10 : (m = W.heap.size) = False := eq_false (by omega)
          have HPUT := Lib.hid (Put.set (Put.set (Put.set (Put.refl W.heap.size (m + 1) w16) (p := ⟨m, 0, none⟩) (by simp only; omega) (by simp only; omega) (.int .i64 4)) (p := ⟨m, 6, none⟩) (by simp only; omega) (by simp only; omega) (.string qn)) (p := ⟨m, 7, none⟩) (by simp only; omega) (by simp only; omega) (.slice A ql.length c))
          have HG_ := Lib.hid (HPUT.out.grown HG.out (Nat.le_refl _))
          have HR_ := Lib.hid (HR.out.put HPUT.out hR)
          have HX_ := Lib.hid (((HX.out.far (p := ⟨m, 0, none⟩) (by simp only; omega) (.int .i64 4)).far (p := ⟨m, 6, none⟩) (by simp only; omega) (.string qn)).far (p := ⟨m, 7, none⟩) (by simp only; omega) (.slice A ql.length c))
          have HY_ : Hid (Bx 60 (((w16.setCell ⟨m, 0, none⟩ (.int .i64 4)).setCell ⟨m, 6, none⟩ (.string qn)).setCell ⟨m, 7, none⟩ (.slice A ql.length c)) m #[.int .i64 4, .int .i64 at_, .string ⟨#[]⟩, .int .i64 0, .string ⟨#[]⟩, .slice none 0 0, .string qn, .slice A ql.length c, .int .i64 0, .slice none 0 0, .string ⟨#[]⟩, .slice none 0 0, .string ⟨#[]⟩, .string ⟨#[]⟩, .bool false, .int .i64 0, .string ⟨#[]⟩, .slice none 0 0, .slice none 0 0, .slice none 0 0, .slice none 0 0]) := Lib.hid (by have h := (((HY.out.set 0 (.int .i64 4)).set 6 (.string qn)).set 7 (.slice A ql.length c)); simpa using h)
          have HQ_ := Lib.hid (HQ.out.put HPUT.out (by omega))
          clear HPUT HG HR HX HY HQ
          have HG := HG_
          have HR := HR_
          have HX := HX_
          have HY := HY_
          have HQ := HQ_
          clear HG_ HR_ HX_ HY_ HQ_
          go_wp2_with fail
          clear lHX cHX fHX lHY cHY fHY hne01 hne10
          generalize (((w16.setCell ⟨m, 0, none⟩ (.int .i64 4)).setCell ⟨m, 6, none⟩ (.string qn)).setCell ⟨m, 7, none⟩ (.slice A ql.length c)) = w17 at *
          refine (must_rd HR.out ⟨#[123]⟩).mono ?_
          rintro e w18 ⟨hg, ⟨⟨⟩, us2, v, hp, rfl, rfl, hr, hle⟩ | ⟨er, at_, hp, rfl⟩⟩
          · skip
            have HP11 := Lib.hid hp
            have HLE11 := Lib.hid hle
            clear hp hle
            have HG_ := Lib.hid (World.grownBy.trans HG.out hg)
            have HR_ := Lib.hid hr
            have HX_ := Lib.hid (HX.out.kept hg (by omega))
            have HY_ := Lib.hid (HY.out.kept hg (by omega))
            have HQ_ := Lib.hid (HQ.out.kept hg (by omega))
            clear hg hr HG HR HX HY HQ
            have HG := HG_
            have HR := HR_
            have HX := HX_
            have HY := HY_
            have HQ := HQ_
            clear HG_ HR_ HX_ HY_ HQ_
            have HP : Hid (stmtP (blockP k) ts = ((armsP (blockP k) (us2.length + 1)).bd fun l => Ps.ret (Stm.mk 4 at_ noB .zero ⟨qn, ql⟩ .zero .zero [] [] ([] ++ l))) us2) := Lib.hid (by rw [stmtP, ← HAT.out, stmtQ, optE_f HW1.out, optE_f HW6.out, optE_t HW9.out, Ps.bd_ok HP10.out, Ps.bd_ok HP11.out]; rfl)
            obtain ⟨z, hzw, hzm⟩ : ∃ z, z ≤ w18.heap.size ∧ w18.heap.size ≤ z := ⟨_, Nat.le_refl _, Nat.le_refl _⟩
            have hmz : m < z := by have := blk_lt HY.out; omega
            have HA : Hid (Rd w18 (fun j => z ≤ j) (.slice none 0 0) (.row 95 3 (Arm.ds []))) := Lib.hid (by simp only [Arm.ds]; exact Rd.nil _ _ _ _)
            have HQb := Lib.hid (HQ.out.bound.mono (ok' := fun j => m + 1 ≤ j ∧ j < z) (fun k hk => ⟨hk.1, by have := hk.2; omega⟩))
            clear HQ hzm
            have HQ := HQb
            clear HQb
            have hus : us2.length ≤ ts.length := by have := HLT9.out; have := HLE10.out; have := HLE11.out; first | omega | (simp at *; omega)
            have hlen2 := hlen
            go_wp2_with fail
            go_loopg [] (us2.length + 1) (fun gk wr => ∃ (us' : List Tk) (acc : List Arm) (A9 : Option Addr) (c9 n : Nat), us'.length < gk ∧ us'.length < n ∧ acc.length + us'.length ≤ ts.length ∧ Hid (Rdr wr R us') ∧ Hid (W.grownBy wr (some R)) ∧ Hid (Bx 60 wr W.heap.size #[.int .i64 0, .int .i64 0, .string ⟨#[]⟩, .int .i64 0, .string ⟨#[]⟩, .slice none 0 0, .string ⟨#[]⟩, .slice none 0 0, .int .i64 0, .slice none 0 0, .string ⟨#[]⟩, .slice none 0 0, .string ⟨#[]⟩, .string ⟨#[]⟩, .bool false, .int .i64 0, .string ⟨#[]⟩, .slice none 0 0, .slice none 0 0, .slice none 0 0, .slice none 0 0]) ∧ Hid (Bx 60 wr m #[.int .i64 4, .int .i64 at_, .string ⟨#[]⟩, .int .i64 0, .string ⟨#[]⟩, .slice none 0 0, .string qn, .slice A ql.length c, .int .i64 0, .slice none 0 0, .string ⟨#[]⟩, .slice none 0 0, .string ⟨#[]⟩, .string ⟨#[]⟩, .bool false, .int .i64 0, .string ⟨#[]⟩, .slice none 0 0, .slice none 0 0, .slice none 0 0, .slice A9 acc.length c9]) ∧ z ≤ wr.heap.size ∧ Hid (Rd wr (fun j => z ≤ j) (.slice A9 acc.length c9) (.row 95 3 (Arm.ds acc))) ∧ Hid (Rd wr (fun j => m + 1 ≤ j ∧ j < z) (.slice A ql.length c) (.row 104 1 (ql.map stepD))) ∧ Hid (stmtP (blockP k) ts = ((armsP (blockP k) n).bd fun l => Ps.ret (Stm.mk 4 at_ noB .zero ⟨qn, ql⟩ .zero .zero [] [] (acc ++ l))) us'))
            case atStart => exact ⟨us2, [], none, 0, us2.length + 1, by omega, by omega, by simpa using hus, HR, HG, HX, HY, hzw, HA, HQ, HP⟩
            case round =>
              clear HR HG HX HY HA HQ HP hzw
              obtain ⟨us', acc, A9, c9, n, hgk, hn, hacc, HR, HG, HX, HY, hzw, HA, HQ, HP⟩ := hrel
              obtain ⟨n, rfl⟩ : ∃ j, n = j + 1 := ⟨n - 1, by omega⟩
              go_wp2_with fail
              refine (opt_rd HR.out ⟨#[125]⟩).mono ?_
              rintro e w80 ⟨hg, ⟨hw, rfl, hr⟩ | ⟨hw, rfl, hr⟩⟩
              · have HD := Lib.hid hw
                have HDL := Lib.hid (isW_pos hw)
                clear hw
                have HG_ := Lib.hid (World.grownBy.trans HG.out hg)
                have HR_ := Lib.hid hr
                have HX_ := Lib.hid (HX.out.kept hg (by omega))
                have HY_ := Lib.hid (HY.out.kept hg (by omega))
                have HA_ := Lib.hid (HA.out.kept hg (by omega))
                have HQ_ := Lib.hid (HQ.out.grown hg (fun k hk e => by injection e; have := hk.1; omega))
                have hzw_ := Nat.le_trans hzw hg.size
                clear hzw
                have hzw := hzw_
                clear hzw_
                clear hg hr HG HR HX HY HA HQ
                have HG := HG_
                have HR := HR_
                have HX := HX_
                have HY := HY_
                have HA := HA_
                have HQ := HQ_
                clear HG_ HR_ HX_ HY_ HA_ HQ_
                have HPE : Hid (stmtP (blockP k) ts = .ok (.mk 4 at_ noB .zero ⟨qn, ql⟩ .zero .zero [] [] acc, us'.tail)) := Lib.hid (by rw [HP.out]; exact arms_f (f := fun l => Stm.mk 4 at_ noB .zero ⟨qn, ql⟩ .zero .zero [] [] l) HD.out)
                have HPUT : ∀ w', Put W.heap.size (m + 1) w80 w' → Does (stmtP (blockP k)) (Leads W Stm.d) W R ts (.returned (.agg #[.int .i64 4, .int .i64 at_, .string ⟨#[]⟩, .int .i64 0, .string ⟨#[]⟩, .slice none 0 0, .string qn, .slice A ql.length c, .int .i64 0, .slice none 0 0, .string ⟨#[]⟩, .slice none 0 0, .string ⟨#[]⟩, .string ⟨#[]⟩, .bool false, .int .i64 0, .string ⟨#[]⟩, .slice none 0 0, .slice none 0 0, .slice none 0 0, .slice A9 acc.length c9])) w' := fun w' hput => ⟨hput.grown HG.out (Nat.le_refl _), .inl ⟨_, us'.tail, _, HPE.out, rfl, ⟨_, rfl, stm_rds (by simp only [Ty.ds]; exact (Rd.nil _ _ _ _)) (((HQ.out.mono (fun k hk => hk.1) : Rd w80 (fun j => m + 1 ≤ j) _ _).put hput (Nat.le_refl _)).low (by omega)) (Rd.nil _ _ _ _) (Rd.nil _ _ _ _) (Rd.nil _ _ _ _) (by simp only [Stm.ds]; exact (Rd.nil _ _ _ _)) (by simp only [Stm.ds]; exact (Rd.nil _ _ _ _)) ((HA.out.put hput (by omega)).low (by omega))⟩, HR.out.put hput hR, by have := HDL.out; omega⟩⟩
                have hyo : w80.heap[m]? = some (.cells #[.int .i64 4, .int .i64 at_, .string ⟨#[]⟩, .int .i64 0, .string ⟨#[]⟩, .slice none 0 0, .string qn, .slice A ql.length c, .int .i64 0, .slice none 0 0, .string ⟨#[]⟩, .slice none 0 0, .string ⟨#[]⟩, .string ⟨#[]⟩, .bool false, .int .i64 0, .string ⟨#[]⟩, .slice none 0 0, .slice none 0 0, .slice none 0 0, .slice A9 acc.length c9] 60 (0, 0)) := HY.out
                have hxo : w80.heap[W.heap.size]? = some (.cells #[.int .i64 0, .int .i64 0, .string ⟨#[]⟩, .int .i64 0, .string ⟨#[]⟩, .slice none 0 0, .string ⟨#[]⟩, .slice none 0 0, .int .i64 0, .slice none 0 0, .string ⟨#[]⟩, .slice none 0 0, .string ⟨#[]⟩, .string ⟨#[]⟩, .bool false, .int .i64 0, .string ⟨#[]⟩, .slice none 0 0, .slice none 0 0, .slice none 0 0, .slice none 0 0] 60 (0, 0)) := HX.out
                have hpt : Put W.heap.size (m + 1) w80 w80 := (Put.refl W.heap.size (m + 1) w80)
                go_wp2_with (first
                  | (with_reducible refine wpList_load_row (o := ⟨some 63, .load 60 (.tmp 5), _, _, _, _⟩) rfl 60 _ rfl (m) rfl 60 #[.int .i64 4, .int .i64 at_, .string ⟨#[]⟩, .int .i64 0, .string ⟨#[]⟩, .slice none 0 0, .string qn, .slice A ql.length c, .int .i64 0, .slice none 0 0, .string ⟨#[]⟩, .slice none 0 0, .string ⟨#[]⟩, .string ⟨#[]⟩, .bool false, .int .i64 0, .string ⟨#[]⟩, .slice none 0 0, .slice none 0 0, .slice none 0 0, .slice A9 acc.length c9] (0, 0) _ hyo Tryz.underlying60 (by kernel_rfl) (by kernel_rfl) ?_)
                  | (with_reducible refine wpList_store_row (o := ⟨none, .store 60 (.tmp 4) (.tmp 63), _, _, _, _⟩) rfl 60 _ _ rfl (W.heap.size) #[.int .i64 4, .int .i64 at_, .string ⟨#[]⟩, .int .i64 0, .string ⟨#[]⟩, .slice none 0 0, .string qn, .slice A ql.length c, .int .i64 0, .slice none 0 0, .string ⟨#[]⟩, .slice none 0 0, .string ⟨#[]⟩, .string ⟨#[]⟩, .bool false, .int .i64 0, .string ⟨#[]⟩, .slice none 0 0, .slice none 0 0, .slice none 0 0, .slice A9 acc.length c9] rfl rfl 60 #[.int .i64 0, .int .i64 0, .string ⟨#[]⟩, .int .i64 0, .string ⟨#[]⟩, .slice none 0 0, .string ⟨#[]⟩, .slice none 0 0, .int .i64 0, .slice none 0 0, .string ⟨#[]⟩, .slice none 0 0, .string ⟨#[]⟩, .string ⟨#[]⟩, .bool false, .int .i64 0, .string ⟨#[]⟩, .slice none 0 0, .slice none 0 0, .slice none 0 0, .slice none 0 0] (hxo) (by kernel_rfl) (by kernel_rfl) (by kernel_rfl) ?_))
                refine bodyPost_ret (results_cell_row rfl _ _ W.heap.size 60 #[.int .i64 4, .int .i64 at_, .string ⟨#[]⟩, .int .i64 0, .string ⟨#[]⟩, .slice none 0 0, .string qn, .slice A ql.length c, .int .i64 0, .slice none 0 0, .string ⟨#[]⟩, .slice none 0 0, .string ⟨#[]⟩, .string ⟨#[]⟩, .bool false, .int .i64 0, .string ⟨#[]⟩, .slice none 0 0, .slice none 0 0, .slice none 0 0, .slice A9 acc.length c9] (0, 0) _ rfl (setRow_heap _ _ _ _ _ _ hxo) Tryz.underlying60 rfl (by kernel_rfl)) rfl (HPUT _ ?_)
                exact hpt.row (Nat.le_refl _) (by omega) _
              · have HD := Lib.hid hw
                clear hw
                have HG_ := Lib.hid (World.grownBy.trans HG.out hg)
                have HR_ := Lib.hid hr
                have HX_ := Lib.hid (HX.out.kept hg (by omega))
                have HY_ := Lib.hid (HY.out.kept hg (by omega))
                have HA_ := Lib.hid (HA.out.kept hg (by omega))
                have HQ_ := Lib.hid (HQ.out.grown hg (fun k hk e => by injection e; have := hk.1; omega))
                have hzw_ := Nat.le_trans hzw hg.size
                clear hzw
                have hzw := hzw_
                clear hzw_
                clear hg hr HG HR HX HY HA HQ
                have HG := HG_
                have HR := HR_
                have HX := HX_
                have HY := HY_
                have HA := HA_
                have HQ := HQ_
                clear HG_ HR_ HX_ HY_ HA_ HQ_
                go_wp2_with fail
                have HGd := Lib.hid (grown_then HG.out (bel_drew (Below.refl w80.heap.size w80)) HG.out.size)
                have HRd := Lib.hid (HR.out.below (bel_drew (Below.refl w80.heap.size w80)) HR.out.lt)
                have HXd := Lib.hid (HX.out.drew)
                have HYd := Lib.hid (HY.out.drew)
                have HAd := Lib.hid (HA.out.bel (bel_drew (Below.refl w80.heap.size w80)))
                have HQd := Lib.hid (HQ.out.bel (bel_drew (Below.refl w80.heap.size w80)))
                have hm9 : m < w80.heap.size := blk_lt HY.out
                have hob : ∀ k, (Value.slice A9 acc.length c9).ownBlock = some k → z ≤ k ∧ k < w80.heap.size := fun k hk => by obtain ⟨xs, ho, h1⟩ := HA.out.owns; exact ⟨h1 k hk, blk_lt (row_lt ho k hk).2.choose_spec⟩
                have HOB := Lib.hid hob
                clear hob
                refine start_ (n := 9) (S := fun w' => w'.cell? ⟨m, 20, none⟩ = some (.slice A9 acc.length c9)) (ds := [8]) #[false, false, false, false, false, false, false, false, false] (by kernel_rfl) rfl rfl (blk_cell HYd.out 20) (fun hHeld => ?_)
                refine pure_ (i := 0) (N := some 55) (v := ?_) (a' := ?_) #[true, false, false, false, false, false, false, false, false] rfl rfl (by kernel_rfl) (fun _ _ _ h => h) (Or.inl ⟨by rfl, ?_⟩) ?_ ?_
                rotate_left
                · intro w'
                  go_simp
                  with_reducible rfl
                rotate_left
                · simp only [Act.put, List.setIfInBounds_toArray, List.set_cons_zero, List.set_cons_succ, i64_w, i32_w]
                  rfl
                refine pure_ (i := 2) (N := some 57) (v := ?_) (a' := ?_) #[true, false, true, false, false, false, false, false, false] rfl rfl (by kernel_rfl) (fun _ _ _ h => h) (Or.inl ⟨by rfl, ?_⟩) ?_ ?_
                rotate_left
                · intro w'
                  go_simp
                  with_reducible rfl
                rotate_left
                · simp only [Act.put, List.setIfInBounds_toArray, List.set_cons_zero, List.set_cons_succ, i64_w, i32_w]
                  rfl
                refine pure_ (i := 3) (N := some 58) (v := ?_) (a' := ?_) #[true, false, true, true, false, false, false, false, false] rfl rfl (by kernel_rfl) (fun _ _ _ h => h) (Or.inl ⟨by rfl, ?_⟩) ?_ ?_
                rotate_left
                · intro w'
                  go_simp
                  with_reducible rfl
                rotate_left
                · simp only [Act.put, List.setIfInBounds_toArray, List.set_cons_zero, List.set_cons_succ, i64_w, i32_w]
                  rfl
                refine take_ (i := 1) (N := some 56) (v := ?_) (a' := ?_) #[true, true, true, true, false, false, false, false, false] rfl rfl (by kernel_rfl) (fun _ _ _ h => h) (Or.inl ⟨by rfl, ?_⟩) hHeld ?_ ?_
                rotate_left
                · intro w' s0
                  go_simp
                  with_reducible rfl
                rotate_left
                · simp only [Act.put, List.setIfInBounds_toArray, List.set_cons_zero, List.set_cons_succ, i64_w, i32_w]
                  rfl
                refine one_ (i := 4) (N := some 59) #[true, true, true, true, true, false, false, false, false] rfl rfl (by kernel_rfl) (by decide) (fun K hK => ?_)
                refine goes2_ Tryz.func217 (by kernel_rfl) rfl #[.pointer (some ⟨R, 0, none⟩), .int .i64 d] (by rfl) rfl rfl (by simp only [List.map_toArray, List.map_cons, List.map_nil]; rfl) ?_
                refine (IA.out _ _ HRd.out).mono ?_
                rintro e w81 ⟨hg, ⟨a, us3, v, hp, rfl, hv, hr, hle⟩ | ⟨er, at9, hp, rfl⟩⟩
                rotate_left
                · refine .inr ⟨_, rfl, ?_⟩
                  go_wp2_with fail
                  exact ⟨rfl, World.grownBy.trans HGd.out hg, .inr ⟨er, at9, (by rw [HP.out]; exact arms_e (f := fun l => Stm.mk 4 at_ noB .zero ⟨qn, ql⟩ .zero .zero [] [] l) HD.out hp), rfl⟩⟩
                obtain ⟨vn, vb, vl, A7, c7, rfl, rfl, hl⟩ := hv.arm
                refine .inl ⟨_, rfl, ?_⟩
                have HG1 := Lib.hid (World.grownBy.trans HGd.out hg)
                have HR1 := Lib.hid hr
                have HX1 := Lib.hid (HXd.out.kept hg (by omega))
                have HY1 := Lib.hid (HYd.out.kept hg (by omega))
                have HA1 := Lib.hid (HAd.out.kept hg (by omega))
                have HQ1 := Lib.hid (HQd.out.grown hg (fun k hk e => by injection e; have := hk.1; omega))
                have HL2 := Lib.hid hl
                have HP9 := Lib.hid hp
                have HLE9 := Lib.hid ((Lt.arm (Le.block k) us' _ us3 hp).2)
                have hs81 : w80.heap.size ≤ w81.heap.size := hg.size
                clear hg hr hv hl hp hle
                refine hK.out _ _ (blk_cell HY1.out 20) (fun hHeld => ?_)
                clear hK K
                refine norm_ (a' := ?_) ?_ ?_
                rotate_left
                · show Act.put _ (some 59) _ = _
                  simp only [Act.put, List.setIfInBounds_toArray, List.set_cons_zero, List.set_cons_succ, i64_w, i32_w]
                  rfl
                refine one_ (i := 5) (N := some 60) #[true, true, true, true, true, true, false, false, false] rfl rfl (by kernel_rfl) (by decide) (fun K hK => ?_)
                refine value_ (w1 := ?_) (v := ?_) (by rfl) rfl ?_ ?_
                rotate_left 2
                · go_simp
                  constructor
                  · rfl
                  · rfl
                refine hK.out _ _ (blk_cell (HY1.out.alloc _) 20) (fun hHeld => ?_)
                clear hK K
                refine norm_ (a' := ?_) ?_ ?_
                rotate_left
                · show Act.put _ (some 60) _ = _
                  simp only [Act.put, List.setIfInBounds_toArray, List.set_cons_zero, List.set_cons_succ, i64_w, i32_w]
                  rfl
                refine one_ (i := 6) (N := some 61) #[true, true, true, true, true, true, true, false, false] rfl rfl (by kernel_rfl) (by decide) (fun K hK => ?_)
                refine Rd.append_step (W := w81) (ok := fun j => z ≤ j) (okp := fun j => w80.heap.size ≤ j) (cs := [.string vn, .string vb, .slice A7 vl.length c7]) (ds := Arm.d (.mk vn vb vl)) (l := Arm.ds acc) (by rfl) (.tmp 56) (.tmp 60) 58 (.agg #[.string ⟨#[]⟩, .string ⟨#[]⟩, .slice none 0 0]) 56 rfl Tryz.underlying58 info_Arm rfl (by decide) (by decide) rfl rfl HA1.out (by simp only [Arm.d]; exact ⟨.v _, .v _, HL2.out, trivial⟩) (by simp [Arm.d]) (fun k hk => by omega) (fun k hk => ⟨by omega, fun e => by have := HOB.out _ e; omega⟩) (by simp [Value.oneCell']) (by rw [Arm.ds_length]; omega) ?_
                intro u5 w82 h5 hg5 hat5
                obtain ⟨A10, c10, rfl⟩ : ∃ A c, u5 = .slice A (acc.length + 1) c := (by obtain ⟨A, c, h⟩ := h5.slice; exact ⟨A, c, by rw [h]; simp [Arm.ds_length]⟩)
                have HG2 := Lib.hid (grown_own HG1.out hg5 (fun k hk => by have := HOB.out _ hk; omega))
                have HR2 := Lib.hid (HR1.out.grown hg5 (fun k hk => by have := HOB.out _ hk; omega))
                have HX2 : Hid (Bx 60 w82 W.heap.size _) := Lib.hid ((hg5.block _ (blk_lt HX1.out) (fun e => by have := HOB.out _ e.symm; omega)).trans HX1.out)
                have HY2 : Hid (Bx 60 w82 m _) := Lib.hid ((hg5.block _ (blk_lt HY1.out) (fun e => by have := HOB.out _ e.symm; omega)).trans HY1.out)
                have HQ2 : Hid (Rd w82 (fun j => m + 1 ≤ j ∧ j < z) (.slice A ql.length c) (.row 104 1 (ql.map stepD))) := Lib.hid (HQ1.out.grown hg5 (fun k hk e => by have := HOB.out _ e; have := hk.2; omega))
                have HA2 := Lib.hid h5
                have hg82 : Hid (w80.heap.size ≤ w82.heap.size) := Lib.hid (Nat.le_trans hs81 hg5.size)
                clear h5 hg5 hat5
                refine hK.out _ _ (blk_cell HY2.out 20) (fun hHeld => ?_)
                clear hK K
                refine norm_ (a' := ?_) ?_ ?_
                rotate_left
                · show Act.put _ (some 61) _ = _
                  simp only [Act.put, List.setIfInBounds_toArray, List.set_cons_zero, List.set_cons_succ, i64_w, i32_w]
                  rfl
                refine pure_ (i := 7) (N := some 62) (v := ?_) (a' := ?_) #[true, true, true, true, true, true, true, true, false] rfl rfl (by kernel_rfl) (fun _ _ _ h => h) (Or.inl ⟨by rfl, ?_⟩) ?_ ?_
                rotate_left
                · intro w'
                  go_simp
                  with_reducible rfl
                rotate_left
                · simp only [Act.put, List.setIfInBounds_toArray, List.set_cons_zero, List.set_cons_succ, i64_w, i32_w]
                  rfl
                refine last_ (i := 8) (N := none) #[true, true, true, true, true, true, true, true, true] rfl rfl (by kernel_rfl) (by decide) (fun K hK => ?_)
                have hfz := blk_frozen HY2.out 20
                have hcz : w82.cell? ⟨m, 20, none⟩ = some (.slice A9 acc.length c9) := blk_cell HY2.out 20
                refine skip_ (w1 := ?_) (by rfl) rfl ?_ ?_
                rotate_left
                · go_simp
                  rfl
                refine hK.out _ _ ?_
                clear hK K
                refine done_ (by kernel_rfl) ?_
                clear hHeld hfz hcz
                have HG3 := Lib.hid (grown_set HG2.out (p := ⟨m, 20, none⟩) (by simp only; omega) (.slice A10 (acc.length + 1) c10))
                have HR3 := Lib.hid (HR2.out.far (p := ⟨m, 20, none⟩) (by simp only; omega) (.slice A10 (acc.length + 1) c10))
                have HX3 := Lib.hid (HX2.out.far (p := ⟨m, 20, none⟩) (by simp only; omega) (.slice A10 (acc.length + 1) c10))
                have HY3 : Hid (Bx 60 (w82.setCell ⟨m, 20, none⟩ (.slice A10 (acc.length + 1) c10)) m #[.int .i64 4, .int .i64 at_, .string ⟨#[]⟩, .int .i64 0, .string ⟨#[]⟩, .slice none 0 0, .string qn, .slice A ql.length c, .int .i64 0, .slice none 0 0, .string ⟨#[]⟩, .slice none 0 0, .string ⟨#[]⟩, .string ⟨#[]⟩, .bool false, .int .i64 0, .string ⟨#[]⟩, .slice none 0 0, .slice none 0 0, .slice none 0 0, .slice A10 (acc.length + 1) c10]) := Lib.hid (by have h := HY2.out.set 20 (.slice A10 (acc.length + 1) c10); simpa using h)
                have HA3 := Lib.hid (HA2.out.far (p := ⟨m, 20, none⟩) (fun k hk => by simp only; omega) (.slice A10 (acc.length + 1) c10))
                have HQ3 := Lib.hid (HQ2.out.far (p := ⟨m, 20, none⟩) (fun k hk => by have := hk.1; simp only; omega) (.slice A10 (acc.length + 1) c10))
                have HP3 : Hid (stmtP (blockP k) ts = ((armsP (blockP k) n).bd fun l => Ps.ret (Stm.mk 4 at_ noB .zero ⟨qn, ql⟩ .zero .zero [] [] ((acc ++ [Arm.mk vn vb vl]) ++ l))) us3) := Lib.hid (by rw [HP.out]; exact arms_t (f := fun l => Stm.mk 4 at_ noB .zero ⟨qn, ql⟩ .zero .zero [] [] l) HD.out HP9.out)
                have hzw3 : z ≤ (w82.setCell ⟨m, 20, none⟩ (.slice A10 (acc.length + 1) c10)).heap.size := by have := HG3.out.size; have := hg82.out; rw [World.size_setCell]; omega
                have hl6 : (acc ++ [Arm.mk vn vb vl]).length = acc.length + 1 := by simp
                have hle9 := HLE9.out
                clear HG HR HX HY HA HQ HGd HRd HXd HYd HAd HQd HG1 HR1 HX1 HY1 HA1 HQ1 HL2 HG2 HR2 HX2 HY2 HA2 HQ2 HP HP9 HD HLE9 hg82 HOB hs81
                go_wp2_with fail
                go_roundg (us3.length + 1)
                case measure => omega
                case rel => exact ⟨us3, acc ++ [Arm.mk vn vb vl], A10, c10, n, by omega, by omega, by rw [hl6]; omega, HR3, HG3, HX3, Lib.hid (by rw [hl6]; exact HY3.out), hzw3, Lib.hid (by rw [hl6, Arm.ds_snoc]; exact HA3.out), HQ3, HP3⟩
          · go_wp2_with fail
            exact ⟨rfl, World.grownBy.trans HG.out hg, .inr ⟨er, at_, (by rw [stmtP, ← HAT.out, stmtQ, optE_f HW1.out, optE_f HW6.out, optE_t HW9.out, Ps.bd_ok HP10.out]; exact Ps.bd_err hp), rfl⟩⟩
        · go_wp2_with fail
          exact ⟨rfl, World.grownBy.trans HG.out hg, .inr ⟨er, at_, (by rw [stmtP, ← HAT.out, stmtQ, optE_f HW1.out, optE_f HW6.out, optE_t HW9.out]; exact Ps.bd_err hp), rfl⟩⟩
      · skip
        have HW9 := Lib.hid hw
        clear hw
        have HG_ := Lib.hid (World.grownBy.trans HG.out hg)
        have HR_ := Lib.hid hr
        have HX_ := Lib.hid (HX.out.kept hg (by omega))
        have HY_ := Lib.hid (HY.out.kept hg (by omega))
        have HS_ := Lib.hid (HS.out.kept hg)
        clear hg hr HG HR HX HY HS
        have HG := HG_
        have HR := HR_
        have HX := HX_
        have HY := HY_
        have HS := HS_
        clear HG_ HR_ HX_ HY_ HS_
        go_wp2_with fail
        obtain ⟨w70, hm7, hgw7, hg7, hx7⟩ := HS.out
        have HGW := Lib.hid hgw7
        have HX7 := Lib.hid hx7
        have HM7 := Lib.hid hm7
        refine (simple_rd (W := w70) HR.out hg7 (by have := blk_lt hx7; have := hm7; omega) (Nat.le_of_eq hm7) at_ HY.out).mono ?_
        clear HS hm7 hgw7 hg7 hx7
        rintro e w19 ⟨hg, ⟨x, us, cs, hp, rfl, hbx, hrd, hr, hle⟩ | ⟨er, at9, hp, rfl⟩⟩
        · obtain ⟨kk, at2, n2, tk, tn, tl, pn, pl, rk, ops, rpn, rpl, rn, rv, b2, on2, om2, ol2, th2, el2, arms2, A1, c1, A2, c2, A3, c3, A4, c4, A5, c5, A6, c6, A7, c7, A8, c8, rfl, rfl, _⟩ := stm_open hrd
          have HRD := Lib.hid hrd
          have HY_ : Hid (Bx 60 w19 m #[.int .i64 kk, .int .i64 at2, .string n2, .int .i64 tk, .string tn, .slice A1 tl.length c1, .string pn, .slice A2 pl.length c2, .int .i64 rk, .slice A3 ops.length c3, .string rpn, .slice A4 rpl.length c4, .string rn, .string rv, .bool b2, .int .i64 on2, .string om2, .slice A5 ol2.length c5, .slice A6 th2.length c6, .slice A7 el2.length c7, .slice A8 arms2.length c8]) := Lib.hid hbx
          have HX_ := Lib.hid (HX7.out.kept hg (by omega))
          have HG_ := Lib.hid (World.grownBy.trans HGW.out hg)
          have HR_ := Lib.hid hr
          have HP12 := Lib.hid hp
          have HLE12 := Lib.hid hle
          clear hp hle hbx hrd hr hg HGW HX7 HM7 HG HR HX HY
          have HG := HG_
          have HR := HR_
          have HX := HX_
          have HY := HY_
          clear HG_ HR_ HX_ HY_
          go_wp2_with fail
          refine (must_rd HR.out ⟨#[59]⟩).mono ?_
          rintro e w20 ⟨hg, ⟨⟨⟩, us2, v, hp, rfl, rfl, hr, hle⟩ | ⟨er, at_, hp, rfl⟩⟩
          · skip
            have HP13 := Lib.hid hp
            have HLE13 := Lib.hid hle
            clear hp hle
            have HRD_ := Lib.hid (HRD.out.grown hg (fun k hk e => by injection e; omega))
            clear HRD
            have HRD := HRD_
            clear HRD_
            have HG_ := Lib.hid (World.grownBy.trans HG.out hg)
            have HR_ := Lib.hid hr
            have HX_ := Lib.hid (HX.out.kept hg (by omega))
            have HY_ := Lib.hid (HY.out.kept hg (by omega))
            clear hg hr HG HR HX HY
            have HG := HG_
            have HR := HR_
            have HX := HX_
            have HY := HY_
            clear HG_ HR_ HX_ HY_
            have HPF : Hid ((stmtP (blockP k)) ts = .ok (.mk kk at2 n2 (.mk tk tn tl) ⟨pn, pl⟩ ⟨rk, ops, ⟨rpn, rpl⟩, rn, rv⟩ ⟨b2, on2, ⟨om2, ol2⟩⟩ th2 el2 arms2, us2)) := Lib.hid (by rw [stmtP, ← HAT.out, stmtQ, optE_f HW1.out, optE_f HW6.out, optE_f HW9.out, Ps.bd_ok HP12.out, Ps.bd_ok HP13.out]; exact rfl)
            have HPUT : ∀ w', Put W.heap.size (m + 1) w20 w' → Does (stmtP (blockP k)) (Leads W Stm.d) W R ts (.returned (.agg #[.int .i64 kk, .int .i64 at2, .string n2, .int .i64 tk, .string tn, .slice A1 tl.length c1, .string pn, .slice A2 pl.length c2, .int .i64 rk, .slice A3 ops.length c3, .string rpn, .slice A4 rpl.length c4, .string rn, .string rv, .bool b2, .int .i64 on2, .string om2, .slice A5 ol2.length c5, .slice A6 th2.length c6, .slice A7 el2.length c7, .slice A8 arms2.length c8])) w' := fun w' hput => ⟨hput.grown HG.out (Nat.le_refl _), .inl ⟨.mk kk at2 n2 (.mk tk tn tl) ⟨pn, pl⟩ ⟨rk, ops, ⟨rpn, rpl⟩, rn, rv⟩ ⟨b2, on2, ⟨om2, ol2⟩⟩ th2 el2 arms2, us2, _, HPF.out, rfl, ⟨_, rfl, (HRD.out.step (fun k hk _ => hput.block k (.inr hk))).mono (fun k hk => by omega)⟩, HR.out.put hput hR, by have := HLE12.out; have := HLE13.out; first | omega | (simp at *; done) | (simp at *; omega)⟩⟩
            have hyo : w20.heap[m]? = some (.cells #[.int .i64 kk, .int .i64 at2, .string n2, .int .i64 tk, .string tn, .slice A1 tl.length c1, .string pn, .slice A2 pl.length c2, .int .i64 rk, .slice A3 ops.length c3, .string rpn, .slice A4 rpl.length c4, .string rn, .string rv, .bool b2, .int .i64 on2, .string om2, .slice A5 ol2.length c5, .slice A6 th2.length c6, .slice A7 el2.length c7, .slice A8 arms2.length c8] 60 (0, 0)) := HY.out
            have hxo : w20.heap[W.heap.size]? = some (.cells #[.int .i64 0, .int .i64 0, .string ⟨#[]⟩, .int .i64 0, .string ⟨#[]⟩, .slice none 0 0, .string ⟨#[]⟩, .slice none 0 0, .int .i64 0, .slice none 0 0, .string ⟨#[]⟩, .slice none 0 0, .string ⟨#[]⟩, .string ⟨#[]⟩, .bool false, .int .i64 0, .string ⟨#[]⟩, .slice none 0 0, .slice none 0 0, .slice none 0 0, .slice none 0 0] 60 (0, 0)) := HX.out
            have hpt : Put W.heap.size (m + 1) w20 w20 := (Put.refl W.heap.size (m + 1) w20)
            go_wp2_with (first
              | (with_reducible refine wpList_load_row (o := ⟨some 68, .load 60 (.tmp 5), _, _, _, _⟩) rfl 60 _ rfl (m) rfl 60 #[.int .i64 kk, .int .i64 at2, .string n2, .int .i64 tk, .string tn, .slice A1 tl.length c1, .string pn, .slice A2 pl.length c2, .int .i64 rk, .slice A3 ops.length c3, .string rpn, .slice A4 rpl.length c4, .string rn, .string rv, .bool b2, .int .i64 on2, .string om2, .slice A5 ol2.length c5, .slice A6 th2.length c6, .slice A7 el2.length c7, .slice A8 arms2.length c8] (0, 0) _ hyo Tryz.underlying60 (by kernel_rfl) (by kernel_rfl) ?_)
              | (with_reducible refine wpList_store_row (o := ⟨none, .store 60 (.tmp 4) (.tmp 68), _, _, _, _⟩) rfl 60 _ _ rfl (W.heap.size) #[.int .i64 kk, .int .i64 at2, .string n2, .int .i64 tk, .string tn, .slice A1 tl.length c1, .string pn, .slice A2 pl.length c2, .int .i64 rk, .slice A3 ops.length c3, .string rpn, .slice A4 rpl.length c4, .string rn, .string rv, .bool b2, .int .i64 on2, .string om2, .slice A5 ol2.length c5, .slice A6 th2.length c6, .slice A7 el2.length c7, .slice A8 arms2.length c8] rfl rfl 60 #[.int .i64 0, .int .i64 0, .string ⟨#[]⟩, .int .i64 0, .string ⟨#[]⟩, .slice none 0 0, .string ⟨#[]⟩, .slice none 0 0, .int .i64 0, .slice none 0 0, .string ⟨#[]⟩, .slice none 0 0, .string ⟨#[]⟩, .string ⟨#[]⟩, .bool false, .int .i64 0, .string ⟨#[]⟩, .slice none 0 0, .slice none 0 0, .slice none 0 0, .slice none 0 0] (hxo) (by kernel_rfl) (by kernel_rfl) (by kernel_rfl) ?_))
            refine bodyPost_ret (results_cell_row rfl _ _ W.heap.size 60 #[.int .i64 kk, .int .i64 at2, .string n2, .int .i64 tk, .string tn, .slice A1 tl.length c1, .string pn, .slice A2 pl.length c2, .int .i64 rk, .slice A3 ops.length c3, .string rpn, .slice A4 rpl.length c4, .string rn, .string rv, .bool b2, .int .i64 on2, .string om2, .slice A5 ol2.length c5, .slice A6 th2.length c6, .slice A7 el2.length c7, .slice A8 arms2.length c8] (0, 0) _ rfl (setRow_heap _ _ _ _ _ _ hxo) Tryz.underlying60 rfl (by kernel_rfl)) rfl (HPUT _ ?_)
            exact hpt.row (Nat.le_refl _) (by omega) _
          · go_wp2_with fail
            exact ⟨rfl, World.grownBy.trans HG.out hg, .inr ⟨er, at_, (by rw [stmtP, ← HAT.out, stmtQ, optE_f HW1.out, optE_f HW6.out, optE_f HW9.out, Ps.bd_ok HP12.out]; exact Ps.bd_err hp), rfl⟩⟩
        · go_wp2_with fail
          exact ⟨rfl, World.grownBy.trans HGW.out hg, .inr ⟨er, at9, (by rw [stmtP, ← HAT.out, stmtQ, optE_f HW1.out, optE_f HW6.out, optE_f HW9.out]; exact Ps.bd_err hp), rfl⟩⟩
end Go.Proofs.YtjoiflokekebkaaGreatDoor
end

section
/- Walks: a block of statements. -/
namespace Go.Proofs.YtjoiflokekebkaaGreatDoor
open Go.RowKit

theorem info_Stmt : (Tryz.prog.info? 60).map (fun i => (i.zero, i.size, i.bytes)) = some (some (.agg #[.int .i64 0, .int .i64 0, .string ⟨#[]⟩, .int .i64 0, .string ⟨#[]⟩, .slice none 0 0, .string ⟨#[]⟩, .slice none 0 0, .int .i64 0, .slice none 0 0, .string ⟨#[]⟩, .slice none 0 0, .string ⟨#[]⟩, .string ⟨#[]⟩, .bool false, .int .i64 0, .string ⟨#[]⟩, .slice none 0 0, .slice none 0 0, .slice none 0 0, .slice none 0 0]), 21, 352) := by kernel_rfl
theorem Stm.ds_snoc (a : List Stm) (x : Stm) : Stm.ds (a ++ [x]) = Stm.ds a ++ [Stm.d x] := by
  induction a with
  | nil => simp [Stm.ds]
  | cons y a ih => simp [Stm.ds, ih]
section
variable {blk : Ps (List Stm)} {n : Nat} {acc : List Stm} {ts us : List Tk} {x : Stm}
theorem stmts_t (hw : isW (⟨#[125]⟩ : ByteArray) ts = false) (hx : stmtP blk ts = .ok (x, us)) : ((stmtsP blk (n + 1)).bd fun l => Ps.ret (acc ++ l)) ts = ((stmtsP blk n).bd fun l => Ps.ret ((acc ++ [x]) ++ l)) us := by
  have h : stmtsP blk (n + 1) ts = ((stmtP blk).bd fun s => (stmtsP blk n).bd fun l => .ret (s :: l)) ts := optE_f hw
  rw [Ps.bd_ok hx] at h
  unfold Ps.bd at h ⊢
  rw [h]
  cases hq : stmtsP blk n us with
  | error e => rfl
  | ok r => simp [Ps.ret]
theorem stmts_e {e : Int × Int} (hw : isW (⟨#[125]⟩ : ByteArray) ts = false) (hx : stmtP blk ts = .error e) : ((stmtsP blk (n + 1)).bd fun l => Ps.ret (acc ++ l)) ts = .error e := by
  have h : stmtsP blk (n + 1) ts = ((stmtP blk).bd fun s => (stmtsP blk n).bd fun l => .ret (s :: l)) ts := optE_f hw
  rw [Ps.bd_err hx] at h
  exact Ps.bd_err h
theorem stmts_f (hw : isW (⟨#[125]⟩ : ByteArray) ts = true) : ((stmtsP blk (n + 1)).bd fun l => Ps.ret (acc ++ l)) ts = .ok (acc, ts.tail) := by
  have h : stmtsP blk (n + 1) ts = .ok ([], ts.tail) := optE_t hw
  rw [Ps.bd_ok h]
  simp [Ps.ret]
theorem block_s {k : Nat} (hx : must (⟨#[123]⟩ : ByteArray) ts = .ok ((), us)) : blockP (k + 1) ts = ((stmtsP (blockP k) (us.length + 1)).bd fun l => Ps.ret ([] ++ l)) us := by
  have h : blockP (k + 1) ts = stmtsP (blockP k) (us.length + 1) us := by rw [blockP, Ps.bd_ok hx]
  rw [h]
  unfold Ps.bd
  cases stmtsP (blockP k) (us.length + 1) us with
  | error e => rfl
  | ok r => simp [Ps.ret]
theorem must_f (s : ByteArray) (hw : isW s ts = false) : must s ts = .error (60, (hd ts).at_) := by simp [must, hw]
end
set_option maxRecDepth 100000 in
set_option maxHeartbeats 4000000 in
theorem block_zero : BlkOk 0 := by
  intro d h0 hd0 W R ts h
  obtain rfl : d = 61 := by omega
  have H := Lib.hid h
  have hR := h.lt
  have hnew : (W.alloc (.cells #[.string ⟨#[123]⟩] 9)).cell? ⟨W.heap.size, 0, none⟩ = some (.string ⟨#[123]⟩) := blk_cell (heap_alloc_new W _) 0
  have HN := Lib.hid hnew
  have HB := Lib.hid (bel_one hR (.cells #[.string ⟨#[123]⟩] 9))
  have HA := Lib.hid (grown_alloc (World.grownBy.refl W (some R)) (.cells #[.string ⟨#[123]⟩] 9))
  clear h hnew hd0 h0
  go_enter Tryz.func167, Tryz.ntmps167
  go_wp2_with fail
  refine (is_rd (H.out.below HB.out (by omega)) ⟨#[123]⟩ HN.out (by simp)).mono ?_
  rintro e w1 ⟨rfl, hb⟩
  have HB1 := Lib.hid (HB.out.trans (hb.mono (by simp; omega)))
  have HA1 := Lib.hid (grown_then HA.out hb HA.out.size)
  have HR1 := Lib.hid (H.out.below HB1.out (by omega))
  clear hb
  cases hw : isW (⟨#[123]⟩ : ByteArray) ts with
  | true =>
    have HW := Lib.hid hw
    clear hw
    go_wp2_with fail
    refine (stop_rd HR1.out 61).mono ?_
    rintro e w2 ⟨rfl, hb⟩
    go_wp2_with fail
    exact ⟨rfl, grown_then HA1.out hb HA1.out.size, .inr ⟨61, (hd ts).at_, by simp [blockP, HW.out], rfl⟩⟩
  | false =>
    have HW := Lib.hid hw
    clear hw
    go_wp2_with fail
    refine (must_rd HR1.out ⟨#[123]⟩).mono ?_
    rintro e w2 ⟨hg, ⟨⟨⟩, us, v, hp, rfl, rfl, hr, hle⟩ | ⟨er, at_, hp, rfl⟩⟩
    · rw [must_f _ HW.out] at hp
      cases hp
    · go_wp2_with fail
      exact ⟨rfl, World.grownBy.trans HA1.out hg, .inr ⟨er, at_, (by rw [must_f _ HW.out] at hp; injection hp with hp; rw [← hp]; simp [blockP, HW.out]), rfl⟩⟩
set_option maxRecDepth 100000 in
set_option maxHeartbeats 16000000 in
theorem block_succ {k : Nat} (ih : BlkOk k) : BlkOk (k + 1) := by
  intro d h0 hd1 W R ts h
  have h60 : ¬ d > 60 := by omega
  have hd61 : d ≤ 61 := by omega
  have hR := h.lt
  have hlen := h.ok.len
  have HS := Lib.hid (fun w us (h : Rdr w R us) => stmt_rd (ts := us) h ih d h0 (by omega))
  have hnew : (W.alloc (.cells #[.string ⟨#[123]⟩] 9)).cell? ⟨W.heap.size, 0, none⟩ = some (.string ⟨#[123]⟩) := blk_cell (heap_alloc_new W _) 0
  have HN := Lib.hid hnew
  have HB := Lib.hid (bel_one hR (.cells #[.string ⟨#[123]⟩] 9))
  have HA := Lib.hid (grown_alloc (World.grownBy.refl W (some R)) (.cells #[.string ⟨#[123]⟩] 9))
  have H := Lib.hid h
  clear h hnew hd1 ih
  go_enter Tryz.func167, Tryz.ntmps167
  go_wp2_with fail
  refine (is_rd (H.out.below HB.out (by omega)) ⟨#[123]⟩ HN.out (by simp)).mono ?_
  rintro e w1 ⟨rfl, hb⟩
  have HB1 := Lib.hid (HB.out.trans (hb.mono (by simp; omega)))
  have HG1 := Lib.hid (grown_then HA.out hb HA.out.size)
  have HR1 := Lib.hid (H.out.below HB1.out (by omega))
  clear hb H HN HA HB HB1
  cases hw : isW (⟨#[123]⟩ : ByteArray) ts with
  | false =>
    have HW := Lib.hid hw
    clear hw
    go_wp2_with fail
    refine (must_rd HR1.out ⟨#[123]⟩).mono ?_
    rintro e w2 ⟨hg, ⟨⟨⟩, us, v, hp, rfl, rfl, hr, hle⟩ | ⟨er, at_, hp, rfl⟩⟩
    · rw [must_f _ HW.out] at hp
      cases hp
    · go_wp2_with fail
      exact ⟨rfl, World.grownBy.trans HG1.out hg, .inr ⟨er, at_, Ps.bd_err hp, rfl⟩⟩
  | true =>
    clear hw
    go_wp2_with fail
    refine (must_rd HR1.out ⟨#[123]⟩).mono ?_
    rintro e w2 ⟨hg, ⟨⟨⟩, us, v, hp, rfl, rfl, hr, hle⟩ | ⟨er, at_, hp, rfl⟩⟩
    · have HG := Lib.hid (World.grownBy.trans HG1.out hg)
      have HR := Lib.hid hr
      have HP := Lib.hid (block_s (k := k) hp)
      have HL0 : Hid (Rd w2 (fun j => W.heap.size ≤ j) (.slice none 0 0) (.row 60 21 (Stm.ds []))) := Lib.hid (by simp only [Stm.ds]; exact Rd.nil _ _ _ _)
      clear hg hr hp HG1 HR1
      go_wp2_with fail
      go_loopg [5] (us.length + 1) (fun gk u5 wr => ∃ (us' : List Tk) (acc : List Stm) (A : Option Addr) (c n : Nat), u5 = .slice A acc.length c ∧ us'.length < gk ∧ us'.length < n ∧ acc.length + us'.length ≤ ts.length ∧ Hid (Rdr wr R us') ∧ Hid (W.grownBy wr (some R)) ∧ Hid (Rd wr (fun j => W.heap.size ≤ j) (.slice A acc.length c) (.row 60 21 (Stm.ds acc))) ∧ Hid (blockP (k + 1) ts = ((stmtsP (blockP k) n).bd fun l => Ps.ret (acc ++ l)) us'))
      case atStart => exact ⟨us, [], none, 0, us.length + 1, rfl, by omega, by omega, by simpa using hle, HR, HG, HL0, HP⟩
      case round =>
        clear HR HG HL0 HP
        obtain ⟨us', acc, A, c, n, rfl, hgk, hn, hacc, HR, HG, HL, HP⟩ := hrel
        obtain ⟨n, rfl⟩ : ∃ m, n = m + 1 := ⟨n - 1, by omega⟩
        go_wp2_with fail
        refine (opt_rd HR.out ⟨#[125]⟩).mono ?_
        rintro e w4 ⟨hg, ⟨hw, rfl, hr⟩ | ⟨hw, rfl, hr⟩⟩
        · have htl := isW_pos hw
          have HP2 : Hid (blockP (k + 1) ts = .ok (acc, us'.tail)) := Lib.hid (by rw [HP.out]; exact stmts_f hw)
          have HR4 := Lib.hid hr
          have HG4 := Lib.hid (World.grownBy.trans HG.out hg)
          have HL4 := Lib.hid (HL.out.kept hg hR)
          clear hw hr hg HR HG HL HP
          go_wp2_with fail
          go_ret
          exact ⟨HG4.out, .inl ⟨acc, us'.tail, _, HP2.out, rfl, HL4.out, HR4.out, by omega⟩⟩
        · have HW := Lib.hid hw
          have HR4 := Lib.hid hr
          have HG4 := Lib.hid (World.grownBy.trans HG.out hg)
          have HL4 := Lib.hid (HL.out.kept hg hR)
          clear hw hr hg HR HG HL
          go_wp2_with fail
          refine (HS.out _ _ HR4.out).mono ?_
          rintro e w5 ⟨hg, ⟨y, us2, v, hp, rfl, ⟨cs2, rfl, hc⟩, hr, hle⟩ | ⟨er, at_, hp, rfl⟩⟩
          · have hlt : us2.length < us'.length := (Lt.stmt (Le.block k) us' y us2 hp).2
            have hs4 : W.heap.size ≤ w4.heap.size := HG4.out.size
            have HG5 := Lib.hid (World.grownBy.trans HG4.out hg)
            have HL5 := Lib.hid (HL4.out.kept hg hR)
            have HR5 := Lib.hid hr
            have HC := Lib.hid hc
            have HP2 : Hid (blockP (k + 1) ts = ((stmtsP (blockP k) n).bd fun l => Ps.ret ((acc ++ [y]) ++ l)) us2) := Lib.hid (by rw [HP.out]; exact stmts_t HW.out hp)
            have HNE : Hid (∀ k, w4.heap.size ≤ k → (W.heap.size ≤ k ∧ (Value.slice A acc.length c).ownBlock ≠ some k)) := Lib.hid (fun k hk => ⟨by omega, fun e => by have := (HL4.out.new k e).2; omega⟩)
            have HGS := Lib.hid hg.size
            clear hg hp hr hle HG4 HL4 HR4 HW HP
            obtain ⟨kk, at2, n2, tk, tn, tl, pn, pl, rk, ops, rpn, rpl, rn, rv, b2, on2, om2, ol2, th2, el2, arms2, A1, c1, A2, c2, A3, c3, A4, c4, A5, c5, A6, c6, A7, c7, A8, c8, rfl, rfl, _⟩ := stm_open hc
            clear hc
            have hl6 : (acc ++ [Stm.mk kk at2 n2 (.mk tk tn tl) ⟨pn, pl⟩ ⟨rk, ops, ⟨rpn, rpl⟩, rn, rv⟩ ⟨b2, on2, ⟨om2, ol2⟩⟩ th2 el2 arms2]).length = acc.length + 1 := by simp
            have HLN : Hid ((Stm.ds acc).length = acc.length) := Lib.hid (Stm.ds_length acc)
            go_wp2_with (first | (at_builtin; refine Rd.append_at (W := w5) (cs := [.int .i64 kk, .int .i64 at2, .string n2, .int .i64 tk, .string tn, .slice A1 tl.length c1, .string pn, .slice A2 pl.length c2, .int .i64 rk, .slice A3 ops.length c3, .string rpn, .slice A4 rpl.length c4, .string rn, .string rv, .bool b2, .int .i64 on2, .string om2, .slice A5 ol2.length c5, .slice A6 th2.length c6, .slice A7 el2.length c7, .slice A8 arms2.length c8]) (ds := Stm.d (.mk kk at2 n2 (.mk tk tn tl) ⟨pn, pl⟩ ⟨rk, ops, ⟨rpn, rpl⟩, rn, rv⟩ ⟨b2, on2, ⟨om2, ol2⟩⟩ th2 el2 arms2)) (ok := fun k => W.heap.size ≤ k) (okp := fun k => w4.heap.size ≤ k) (l := Stm.ds acc) rfl (.tmp 20) (.tmp 24) 48 (.agg #[.int .i64 0, .int .i64 0, .string ⟨#[]⟩, .int .i64 0, .string ⟨#[]⟩, .slice none 0 0, .string ⟨#[]⟩, .slice none 0 0, .int .i64 0, .slice none 0 0, .string ⟨#[]⟩, .slice none 0 0, .string ⟨#[]⟩, .string ⟨#[]⟩, .bool false, .int .i64 0, .string ⟨#[]⟩, .slice none 0 0, .slice none 0 0, .slice none 0 0, .slice none 0 0]) 352 rfl Tryz.underlying48 info_Stmt rfl (by decide) (by decide) rfl rfl HL5.out HC.out (by simp [Stm.d, Ty.d, Plc.d, Rvl.d, Opr.d]) (fun k hk => by have := HGS.out; omega) HNE.out (by simp [Value.oneCell']) (by rw [Stm.ds_length]; omega) ?_; intro u6 w6 h6 hg6 hat6; obtain ⟨A6, c6, rfl⟩ := h6.slice; have HL6 := Lib.hid h6; have HG6 := Lib.hid (grown_own HG5.out hg6 (fun k hk => (HL5.out.new k hk).1)); have HR6 := Lib.hid (HR5.out.grown hg6 (fun k hk => by have := (HL5.out.new k hk).1; omega)); clear h6 hg6 hat6 HL5 HG5 HR5))
            go_roundg (us2.length + 1)
            case measure => omega
            case rel => exact ⟨us2, _, A6, c6, n, by rw [hl6]; simp [Stm.ds_length], by omega, by omega, by rw [hl6]; omega, HR6, HG6, Lib.hid (by have h := HL6.out; rw [Stm.ds_snoc, hl6]; simpa [Stm.ds_length] using h), HP2⟩
          · go_wp2_with fail
            exact ⟨rfl, World.grownBy.trans HG4.out hg, .inr ⟨er, at_, (by rw [HP.out]; exact stmts_e HW.out hp), rfl⟩⟩
    · go_wp2_with fail
      exact ⟨rfl, World.grownBy.trans HG1.out hg, .inr ⟨er, at_, Ps.bd_err hp, rfl⟩⟩
theorem block_ok : ∀ k, BlkOk k
  | 0 => block_zero
  | k + 1 => block_succ (block_ok k)
end Go.Proofs.YtjoiflokekebkaaGreatDoor
end

section
/- A source in the making; an item, as it is read. -/
namespace Go.Proofs.YtjoiflokekebkaaGreatDoor
open Go.RowKit

theorem info_Struct : (Tryz.prog.info? 75).map (fun i => (i.zero, i.size, i.bytes)) = some (some (.agg #[.string ⟨#[]⟩, .bool false, .slice none 0 0, .int .i64 0]), 4, 56) := by kernel_rfl
theorem info_Enum : (Tryz.prog.info? 85).map (fun i => (i.zero, i.size, i.bytes)) = some (some (.agg #[.string ⟨#[]⟩, .slice none 0 0, .int .i64 0]), 3, 48) := by kernel_rfl
theorem info_Fn : (Tryz.prog.info? 50).map (fun i => (i.zero, i.size, i.bytes)) = some (some (.agg #[.string ⟨#[]⟩, .slice none 0 0, .slice none 0 0, .int .i64 0]), 4, 72) := by kernel_rfl
/-- A source in the making in block S: its rows share no block (each block has a colour). -/
structure SrcRows (S E N : Nat) (col : Nat → Nat) (w : World) (s : Src) (v1 v2 v3 : Value) : Prop where
  bx : Bx 26 w S #[v1, v2, v3]
  hE : S < E ∧ E < N ∧ col E = 3
  be : Bx 115 w E #[.int .i64 0, .int .i64 0]
  hss : Rd w (fun j => S < j ∧ j < N ∧ col j = 0) v1 (.row 75 4 (s.ss.map Str.d))
  hes : Rd w (fun j => S < j ∧ j < N ∧ col j = 1) v2 (.row 85 3 (s.es.map Enm.d))
  hfs : Rd w (fun j => S < j ∧ j < N ∧ col j = 2) v3 (.row 50 4 (s.fs.map Fnc.d))
def SrcAt (S E : Nat) (w : World) (s : Src) : Prop := ∃ (N : Nat) (col : Nat → Nat) (A1 : Option Addr) (c1 : Nat) (A2 : Option Addr) (c2 : Nat) (A3 : Option Addr) (c3 : Nat), SrcRows S E N col w s (.slice A1 s.ss.length c1) (.slice A2 s.es.length c2) (.slice A3 s.fs.length c3)
theorem SrcRows.bound {S E N : Nat} {col : Nat → Nat} {w : World} {s : Src} {v1 v2 v3 : Value} (h : SrcRows S E N col w s v1 v2 v3) : SrcRows S E w.heap.size col w s v1 v2 v3 :=
  ⟨h.bx, ⟨h.hE.1, blk_lt h.be, h.hE.2.2⟩, h.be, h.hss.bound.mono (fun k hk => ⟨hk.1.1, hk.2, hk.1.2.2⟩), h.hes.bound.mono (fun k hk => ⟨hk.1.1, hk.2, hk.1.2.2⟩), h.hfs.bound.mono (fun k hk => ⟨hk.1.1, hk.2, hk.1.2.2⟩)⟩
theorem SrcRows.step {S E N : Nat} {col : Nat → Nat} {w w' : World} {s : Src} {v1 v2 v3 : Value} (h : SrcRows S E N col w s v1 v2 v3) (hS : w'.heap[S]? = w.heap[S]?) (hm : ∀ k, S < k → k < N → k < w.heap.size → w'.heap[k]? = w.heap[k]?) : SrcRows S E N col w' s v1 v2 v3 :=
  ⟨hS.trans h.bx, h.hE, (hm E h.hE.1 h.hE.2.1 (blk_lt h.be)).trans h.be, h.hss.step (fun k hk hl => hm k hk.1 hk.2.1 hl), h.hes.step (fun k hk hl => hm k hk.1 hk.2.1 hl), h.hfs.step (fun k hk hl => hm k hk.1 hk.2.1 hl)⟩
theorem SrcRows.kept {S E N R : Nat} {col : Nat → Nat} {w w' : World} {s : Src} {v1 v2 v3 : Value} (h : SrcRows S E N col w s v1 v2 v3) (hg : w.grownBy w' (some R)) (hR : R < S) : SrcRows S E N col w' s v1 v2 v3 :=
  h.step (hg.block S (blk_lt h.bx) (fun e => by injection e; omega)) (fun k hk _ hl => hg.block k hl (fun e => by injection e; omega))
theorem SrcRows.bel {S E N : Nat} {col : Nat → Nat} {w w' : World} {s : Src} {v1 v2 v3 : Value} (h : SrcRows S E N col w s v1 v2 v3) (hb : Below w.heap.size w w') : SrcRows S E N col w' s v1 v2 v3 :=
  h.step (hb.block S (blk_lt h.bx)) (fun k _ _ hl => hb.block k hl)
theorem SrcRows.put {S E N lo hi : Nat} {col : Nat → Nat} {w w' : World} {s : Src} {v1 v2 v3 : Value} (h : SrcRows S E N col w s v1 v2 v3) (hp : Put lo hi w w') (h1 : S < lo) (h2 : N ≤ lo) : SrcRows S E N col w' s v1 v2 v3 :=
  h.step (hp.block S (.inl h1)) (fun k _ hk _ => hp.block k (.inl (by omega)))
theorem SrcAt.kept {S E R : Nat} {w w' : World} {s : Src} (h : SrcAt S E w s) (hg : w.grownBy w' (some R)) (hR : R < S) : SrcAt S E w' s := by
  obtain ⟨N, col, A1, c1, A2, c2, A3, c3, h⟩ := h
  exact ⟨N, col, A1, c1, A2, c2, A3, c3, h.kept hg hR⟩
theorem SrcAt.bel {S E : Nat} {w w' : World} {s : Src} (h : SrcAt S E w s) (hb : Below w.heap.size w w') : SrcAt S E w' s := by
  obtain ⟨N, col, A1, c1, A2, c2, A3, c3, h⟩ := h
  exact ⟨N, col, A1, c1, A2, c2, A3, c3, h.bel hb⟩
theorem SrcAt.box {S E : Nat} {w : World} {s : Src} (h : SrcAt S E w s) : ∃ v1 v2 v3, Bx 26 w S #[v1, v2, v3] ∧ S < E ∧ Bx 115 w E #[.int .i64 0, .int .i64 0] := by
  obtain ⟨N, col, A1, c1, A2, c2, A3, c3, h⟩ := h
  exact ⟨_, _, _, h.bx, h.hE.1, h.be⟩
/-- What an item's reader does: it adds to the source in block S. -/
def Item (s : Src) (W : World) (R S E : Nat) (ts : List Tk) (e : Ending) (w' : World) : Prop :=
  W.grownBy w' (some R) ∧ SrcAt S E w' s ∧ (∃ er at2, itemP s ts = .error (er, at2) ∧ e = .panicked [{ v := .iface 115 (.agg #[.int .i64 er, .int .i64 at2]), recovered := false }]) ∨
  W.grownBy w' (some R) ∧ (∃ s' us, itemP s ts = .ok (s', us) ∧ e = .returned (.tuple #[]) ∧ SrcAt S E w' s' ∧ Rdr w' R us)
section
variable {s : Src} {ts us : List Tk} {e : Int × Int}
theorem item_drop (hw : isW (⟨#[100, 114, 111, 112]⟩ : ByteArray) ts = true) : itemP s ts = ((structP true (hd ts).at_).bd fun x => .ret { s with ss := s.ss ++ [x] }) ts.tail := by rw [itemP, itemQ, optE_t hw]
theorem item_rest (hw : isW (⟨#[100, 114, 111, 112]⟩ : ByteArray) ts = false) : itemP s ts = if isW (⟨#[115, 116, 114, 117, 99, 116]⟩ : ByteArray) ts = true then (structP false (hd ts).at_).bd (fun x => .ret { s with ss := s.ss ++ [x] }) ts
      else optE (⟨#[101, 110, 117, 109]⟩ : ByteArray) ((enumP (hd ts).at_).bd fun x => .ret { s with es := s.es ++ [x] }) ((fnP (hd ts).at_).bd fun x => .ret { s with fs := s.fs ++ [x] }) ts := by rw [itemP, itemQ, optE_f hw]
theorem item_struct (hw : isW (⟨#[100, 114, 111, 112]⟩ : ByteArray) ts = false) (h2 : isW (⟨#[115, 116, 114, 117, 99, 116]⟩ : ByteArray) ts = true) : itemP s ts = ((structP false (hd ts).at_).bd fun x => .ret { s with ss := s.ss ++ [x] }) ts := by rw [item_rest hw, if_pos h2]
theorem item_enum (hw : isW (⟨#[100, 114, 111, 112]⟩ : ByteArray) ts = false) (h2 : isW (⟨#[115, 116, 114, 117, 99, 116]⟩ : ByteArray) ts = false) (h3 : isW (⟨#[101, 110, 117, 109]⟩ : ByteArray) ts = true) : itemP s ts = ((enumP (hd ts).at_).bd fun x => .ret { s with es := s.es ++ [x] }) ts.tail := by
  rw [item_rest hw, if_neg (by simp [h2]), optE_t h3]
theorem item_fn (hw : isW (⟨#[100, 114, 111, 112]⟩ : ByteArray) ts = false) (h2 : isW (⟨#[115, 116, 114, 117, 99, 116]⟩ : ByteArray) ts = false) (h3 : isW (⟨#[101, 110, 117, 109]⟩ : ByteArray) ts = false) : itemP s ts = ((fnP (hd ts).at_).bd fun x => .ret { s with fs := s.fs ++ [x] }) ts := by
  rw [item_rest hw, if_neg (by simp [h2]), optE_f h3]
theorem item_count {s' : Src} (h : itemP s ts = .ok (s', us)) : s'.ss.length + s'.es.length + s'.fs.length = s.ss.length + s.es.length + s.fs.length + 1 := by
  have key : ∀ {α : Type} {p : Ps α} {f : α → Src} {t2 : List Tk}, (∀ x, (f x).ss.length + (f x).es.length + (f x).fs.length = s.ss.length + s.es.length + s.fs.length + 1) → (p.bd fun x => Ps.ret (f x)) t2 = .ok (s', us) → s'.ss.length + s'.es.length + s'.fs.length = s.ss.length + s.es.length + s.fs.length + 1 := by
    intro α p f t2 hf hq
    unfold Ps.bd at hq
    cases hp : p t2 with
    | error e => rw [hp] at hq; cases hq
    | ok r =>
      rw [hp] at hq
      simp only [Ps.ret] at hq
      injection hq with hq
      injection hq with hq _
      rw [← hq]
      exact hf _
  cases h1 : isW (⟨#[100, 114, 111, 112]⟩ : ByteArray) ts with
  | true => rw [item_drop h1] at h; exact key (fun x => by simp; omega) h
  | false =>
    cases h2 : isW (⟨#[115, 116, 114, 117, 99, 116]⟩ : ByteArray) ts with
    | true => rw [item_struct h1 h2] at h; exact key (fun x => by simp; omega) h
    | false =>
      cases h3 : isW (⟨#[101, 110, 117, 109]⟩ : ByteArray) ts with
      | true => rw [item_enum h1 h2 h3] at h; exact key (fun x => by simp; omega) h
      | false => rw [item_fn h1 h2 h3] at h; exact key (fun x => by simp; omega) h
end
end Go.Proofs.YtjoiflokekebkaaGreatDoor
end
