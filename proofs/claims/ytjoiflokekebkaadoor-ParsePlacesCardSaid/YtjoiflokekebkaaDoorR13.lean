/- Walks: a statement. -/
import Derived.Deep.WholeRow
import Derived.Test.YtjoiflokekebkaaDoorR12
set_option linter.all false
namespace Go.Proofs.YtjoiflokekebkaaDoor
open Go.RowKit Go.Proofs.YtjoiflokekebkaaDoorW.PrintLast

theorem Arm.ds_snoc (a : List Arm) (x : Arm) : Arm.ds (a ++ [x]) = Arm.ds a ++ [Arm.d x] := by
  induction a with
  | nil => simp [Arm.ds]
  | cons y a ih => simp [Arm.ds, ih]
theorem Put.row {lo hi : Nat} {w w' : World} (h : Put lo hi w w') {g : Nat} (h1 : lo ≤ g) (h2 : g < hi) (cs : Array Value) : Put lo hi w (w'.setRow g cs) :=
  ⟨h.os, h.tape, h.output, (by rw [setRow_size]; exact h.size), fun k hk => (setRow_other w' g k cs (by omega)).trans (h.block k hk)⟩

set_option maxRecDepth 100000 in
set_option maxHeartbeats 32000000 in
theorem stmt_rd {W : World} {R : Nat} {ts : List Tk} (h : Rdr W R ts) {k : Nat} (ih : BlkOk k) (d : Int) (h0 : 0 ≤ d) (hd : d + 1 + k = 61) : Calls Tryd.prog 49 #[.pointer (some ⟨R, 0, none⟩), .int .i64 d] W fun e W' => Does (stmtP (blockP k)) (Leads W Stm.d) W R ts e W' := by
  have hR := h.lt
  have hlen := h.ok.len
  have hd61 : d ≤ 61 := by omega
  have IH := Lib.hid (fun w us (h : Rdr w R us) => ih (d + 1) (by omega) hd w R us h)
  have IA := Lib.hid (fun w us (h : Rdr w R us) => arm_rd (ts := us) h ih d h0 hd)
  clear ih hd
  have hf := tok_at
  have HR := Lib.hid (h.below ((Below.refl (R + 1) W).alloc (by omega) (.cells #[.int .i64 0, .int .i64 0, .string ⟨#[]⟩, .int .i64 0, .string ⟨#[]⟩, .slice none 0 0, .string ⟨#[]⟩, .slice none 0 0, .int .i64 0, .slice none 0 0, .string ⟨#[]⟩, .slice none 0 0, .string ⟨#[]⟩, .string ⟨#[]⟩, .bool false, .int .i64 0, .string ⟨#[]⟩, .slice none 0 0, .slice none 0 0, .slice none 0 0, .slice none 0 0] 65)) (by omega))
  have HG := Lib.hid (grown_alloc (World.grownBy.refl W (some R)) (.cells #[.int .i64 0, .int .i64 0, .string ⟨#[]⟩, .int .i64 0, .string ⟨#[]⟩, .slice none 0 0, .string ⟨#[]⟩, .slice none 0 0, .int .i64 0, .slice none 0 0, .string ⟨#[]⟩, .slice none 0 0, .string ⟨#[]⟩, .string ⟨#[]⟩, .bool false, .int .i64 0, .string ⟨#[]⟩, .slice none 0 0, .slice none 0 0, .slice none 0 0, .slice none 0 0] 65))
  have HX := Lib.hid (.newAt rfl : Bx 65 (W.alloc (.cells #[.int .i64 0, .int .i64 0, .string ⟨#[]⟩, .int .i64 0, .string ⟨#[]⟩, .slice none 0 0, .string ⟨#[]⟩, .slice none 0 0, .int .i64 0, .slice none 0 0, .string ⟨#[]⟩, .slice none 0 0, .string ⟨#[]⟩, .string ⟨#[]⟩, .bool false, .int .i64 0, .string ⟨#[]⟩, .slice none 0 0, .slice none 0 0, .slice none 0 0, .slice none 0 0] 65)) W.heap.size #[.int .i64 0, .int .i64 0, .string ⟨#[]⟩, .int .i64 0, .string ⟨#[]⟩, .slice none 0 0, .string ⟨#[]⟩, .slice none 0 0, .int .i64 0, .slice none 0 0, .string ⟨#[]⟩, .slice none 0 0, .string ⟨#[]⟩, .string ⟨#[]⟩, .bool false, .int .i64 0, .string ⟨#[]⟩, .slice none 0 0, .slice none 0 0, .slice none 0 0, .slice none 0 0])
  clear h
  go_enter Tryd.func49, Tryd.ntmps49
  go_wp2_with fail
  generalize (W.alloc (.cells #[.int .i64 0, .int .i64 0, .string ⟨#[]⟩, .int .i64 0, .string ⟨#[]⟩, .slice none 0 0, .string ⟨#[]⟩, .slice none 0 0, .int .i64 0, .slice none 0 0, .string ⟨#[]⟩, .slice none 0 0, .string ⟨#[]⟩, .string ⟨#[]⟩, .bool false, .int .i64 0, .string ⟨#[]⟩, .slice none 0 0, .slice none 0 0, .slice none 0 0, .slice none 0 0] 65)) = w1 at *
  refine (next_rd HR.out).mono ?_
  rintro e w2 ⟨rfl, hb⟩
  have HG_ := Lib.hid (grown_then HG.out hb HG.out.size)
  have HR_ := Lib.hid (HR.out.below hb HR.out.lt)
  have HX_ := Lib.hid (HX.out.below hb)
  clear hb HG HR HX
  have HG := HG_
  have HR := HR_
  have HX := HX_
  clear HG_ HR_ HX_
  obtain ⟨at_, hat⟩ : ∃ a, a = (hd ts).at_ := ⟨_, rfl⟩
  have HAT := Lib.hid hat
  have HS : Hid (Since W w2.heap.size R W.heap.size #[.int .i64 0, .int .i64 0, .string ⟨#[]⟩, .int .i64 0, .string ⟨#[]⟩, .slice none 0 0, .string ⟨#[]⟩, .slice none 0 0, .int .i64 0, .slice none 0 0, .string ⟨#[]⟩, .slice none 0 0, .string ⟨#[]⟩, .string ⟨#[]⟩, .bool false, .int .i64 0, .string ⟨#[]⟩, .slice none 0 0, .slice none 0 0, .slice none 0 0, .slice none 0 0] (w2.alloc (.cells #[.int .i64 0, .int .i64 at_, .string ⟨#[]⟩, .int .i64 0, .string ⟨#[]⟩, .slice none 0 0, .string ⟨#[]⟩, .slice none 0 0, .int .i64 0, .slice none 0 0, .string ⟨#[]⟩, .slice none 0 0, .string ⟨#[]⟩, .string ⟨#[]⟩, .bool false, .int .i64 0, .string ⟨#[]⟩, .slice none 0 0, .slice none 0 0, .slice none 0 0, .slice none 0 0] 65))) := Lib.hid ⟨w2, rfl, HG.out, World.grownBy_alloc _ _ _, HX.out⟩
  rw [← hat]
  clear hat
  have hlm : W.heap.size < w2.heap.size := blk_lt HX.out
  have HG_ := Lib.hid (grown_alloc HG.out (.cells #[.int .i64 0, .int .i64 at_, .string ⟨#[]⟩, .int .i64 0, .string ⟨#[]⟩, .slice none 0 0, .string ⟨#[]⟩, .slice none 0 0, .int .i64 0, .slice none 0 0, .string ⟨#[]⟩, .slice none 0 0, .string ⟨#[]⟩, .string ⟨#[]⟩, .bool false, .int .i64 0, .string ⟨#[]⟩, .slice none 0 0, .slice none 0 0, .slice none 0 0, .slice none 0 0] 65))
  have HR_ := Lib.hid (HR.out.below (bel_one HR.out.lt (.cells #[.int .i64 0, .int .i64 at_, .string ⟨#[]⟩, .int .i64 0, .string ⟨#[]⟩, .slice none 0 0, .string ⟨#[]⟩, .slice none 0 0, .int .i64 0, .slice none 0 0, .string ⟨#[]⟩, .slice none 0 0, .string ⟨#[]⟩, .string ⟨#[]⟩, .bool false, .int .i64 0, .string ⟨#[]⟩, .slice none 0 0, .slice none 0 0, .slice none 0 0, .slice none 0 0] 65)) (by omega))
  have HX_ := Lib.hid (HX.out.alloc (.cells #[.int .i64 0, .int .i64 at_, .string ⟨#[]⟩, .int .i64 0, .string ⟨#[]⟩, .slice none 0 0, .string ⟨#[]⟩, .slice none 0 0, .int .i64 0, .slice none 0 0, .string ⟨#[]⟩, .slice none 0 0, .string ⟨#[]⟩, .string ⟨#[]⟩, .bool false, .int .i64 0, .string ⟨#[]⟩, .slice none 0 0, .slice none 0 0, .slice none 0 0, .slice none 0 0] 65))
  have HY_ : Hid (Bx 65 (w2.alloc (.cells #[.int .i64 0, .int .i64 at_, .string ⟨#[]⟩, .int .i64 0, .string ⟨#[]⟩, .slice none 0 0, .string ⟨#[]⟩, .slice none 0 0, .int .i64 0, .slice none 0 0, .string ⟨#[]⟩, .slice none 0 0, .string ⟨#[]⟩, .string ⟨#[]⟩, .bool false, .int .i64 0, .string ⟨#[]⟩, .slice none 0 0, .slice none 0 0, .slice none 0 0, .slice none 0 0] 65)) w2.heap.size #[.int .i64 0, .int .i64 at_, .string ⟨#[]⟩, .int .i64 0, .string ⟨#[]⟩, .slice none 0 0, .string ⟨#[]⟩, .slice none 0 0, .int .i64 0, .slice none 0 0, .string ⟨#[]⟩, .slice none 0 0, .string ⟨#[]⟩, .string ⟨#[]⟩, .bool false, .int .i64 0, .string ⟨#[]⟩, .slice none 0 0, .slice none 0 0, .slice none 0 0, .slice none 0 0]) := Lib.hid (.newAt rfl)
  clear HG HR HX
  have HG := HG_
  have HR := HR_
  have HX := HX_
  clear HG_ HR_ HX_
  have HY := HY_
  clear HY_
  go_wp2_with (first
    | (with_reducible refine wpList_store_row (o := ⟨none, .store 65 (.tmp 5) (.tmp 9), _, _, _, _⟩) rfl 65 _ _ rfl (w2.heap.size) #[.int .i64 0, .int .i64 at_, .string ⟨#[]⟩, .int .i64 0, .string ⟨#[]⟩, .slice none 0 0, .string ⟨#[]⟩, .slice none 0 0, .int .i64 0, .slice none 0 0, .string ⟨#[]⟩, .slice none 0 0, .string ⟨#[]⟩, .string ⟨#[]⟩, .bool false, .int .i64 0, .string ⟨#[]⟩, .slice none 0 0, .slice none 0 0, .slice none 0 0, .slice none 0 0] rfl rfl 65 #[.int .i64 0, .int .i64 0, .string ⟨#[]⟩, .int .i64 0, .string ⟨#[]⟩, .slice none 0 0, .string ⟨#[]⟩, .slice none 0 0, .int .i64 0, .slice none 0 0, .string ⟨#[]⟩, .slice none 0 0, .string ⟨#[]⟩, .string ⟨#[]⟩, .bool false, .int .i64 0, .string ⟨#[]⟩, .slice none 0 0, .slice none 0 0, .slice none 0 0, .slice none 0 0] (heap_alloc_new w2 _) (by kernel_rfl) (by kernel_rfl) (by kernel_rfl) ?_
       rw [World.setRow_alloc_new]))
  generalize w2.alloc (.cells #[.int .i64 0, .int .i64 at_, .string ⟨#[]⟩, .int .i64 0, .string ⟨#[]⟩, .slice none 0 0, .string ⟨#[]⟩, .slice none 0 0, .int .i64 0, .slice none 0 0, .string ⟨#[]⟩, .slice none 0 0, .string ⟨#[]⟩, .string ⟨#[]⟩, .bool false, .int .i64 0, .string ⟨#[]⟩, .slice none 0 0, .slice none 0 0, .slice none 0 0, .slice none 0 0] 65) = w3 at *
  generalize w2.heap.size = m at *
  refine (opt_rd HR.out ⟨#[105, 102]⟩).mono ?_
  rintro e w4 ⟨hg, ⟨hw, rfl, hr⟩ | ⟨hw, rfl, hr⟩⟩
  · skip
    have HW1 := Lib.hid hw
    have HLT1 := Lib.hid (isW_pos hw)
    clear hw
    have HG_ := Lib.hid (World.grownBy.trans HG.out hg)
    have HR_ := Lib.hid hr
    have HX_ := Lib.hid (HX.out.kept hg (by omega))
    have HY_ := Lib.hid (HY.out.kept hg (by omega))
    have HS_ := Lib.hid (HS.out.kept hg)
    clear hg hr HG HR HX HY HS
    have HG := HG_
    have HR := HR_
    have HX := HX_
    have HY := HY_
    have HS := HS_
    clear HG_ HR_ HX_ HY_ HS_
    go_wp2_with fail
    refine (oper_rd HR.out).mono ?_
    rintro e w5 ⟨hg, ⟨o, us, v, hp, rfl, hv, hr, hle⟩ | ⟨er, at_, hp, rfl⟩⟩
    · skip
      obtain ⟨ob, on, om, ol, A, c, rfl, rfl, hl⟩ := hv.opr
      have hm3 := blk_lt HY.out
      have HO := Lib.hid (hl.low (m := m + 1) (by omega))
      clear hl hv hm3
      have HP2 := Lib.hid hp
      have HLE2 := Lib.hid hle
      clear hp hle
      have HG_ := Lib.hid (World.grownBy.trans HG.out hg)
      have HR_ := Lib.hid hr
      have HX_ := Lib.hid (HX.out.kept hg (by omega))
      have HY_ := Lib.hid (HY.out.kept hg (by omega))
      have HS_ := Lib.hid (HS.out.kept hg)
      clear hg hr HG HR HX HY HS
      have HG := HG_
      have HR := HR_
      have HX := HX_
      have HY := HY_
      have HS := HS_
      clear HG_ HR_ HX_ HY_ HS_
      clear HS
      obtain ⟨lHX, cHX, fHX⟩ := HX.out.see
      obtain ⟨lHY, cHY, fHY⟩ := HY.out.see
      have hne01 : (W.heap.size = m) = False := eq_false (by omega)
      have hne10 : (m = W.heap.size) = False := eq_false (by omega)
      have HPUT := Lib.hid (Put.set (Put.set (Put.set (Put.set (Put.set (Put.refl W.heap.size (m + 1) w5) (p := ⟨m, 0, none⟩) (by simp only; omega) (by simp only; omega) (.int .i64 2)) (p := ⟨m, 14, none⟩) (by simp only; omega) (by simp only; omega) (.bool ob)) (p := ⟨m, 15, none⟩) (by simp only; omega) (by simp only; omega) (.int .i64 on)) (p := ⟨m, 16, none⟩) (by simp only; omega) (by simp only; omega) (.string om)) (p := ⟨m, 17, none⟩) (by simp only; omega) (by simp only; omega) (.slice A ol.length c))
      have HG_ := Lib.hid (HPUT.out.grown HG.out (Nat.le_refl _))
      have HR_ := Lib.hid (HR.out.put HPUT.out hR)
      have HX_ := Lib.hid (((((HX.out.far (p := ⟨m, 0, none⟩) (by simp only; omega) (.int .i64 2)).far (p := ⟨m, 14, none⟩) (by simp only; omega) (.bool ob)).far (p := ⟨m, 15, none⟩) (by simp only; omega) (.int .i64 on)).far (p := ⟨m, 16, none⟩) (by simp only; omega) (.string om)).far (p := ⟨m, 17, none⟩) (by simp only; omega) (.slice A ol.length c))
      have HY_ : Hid (Bx 65 (((((w5.setCell ⟨m, 0, none⟩ (.int .i64 2)).setCell ⟨m, 14, none⟩ (.bool ob)).setCell ⟨m, 15, none⟩ (.int .i64 on)).setCell ⟨m, 16, none⟩ (.string om)).setCell ⟨m, 17, none⟩ (.slice A ol.length c)) m #[.int .i64 2, .int .i64 at_, .string ⟨#[]⟩, .int .i64 0, .string ⟨#[]⟩, .slice none 0 0, .string ⟨#[]⟩, .slice none 0 0, .int .i64 0, .slice none 0 0, .string ⟨#[]⟩, .slice none 0 0, .string ⟨#[]⟩, .string ⟨#[]⟩, .bool ob, .int .i64 on, .string om, .slice A ol.length c, .slice none 0 0, .slice none 0 0, .slice none 0 0]) := Lib.hid (by have h := (((((HY.out.set 0 (.int .i64 2)).set 14 (.bool ob)).set 15 (.int .i64 on)).set 16 (.string om)).set 17 (.slice A ol.length c)); simpa using h)
      have HO_ := Lib.hid (HO.out.put HPUT.out (by omega))
      clear HPUT HG HR HX HY HO
      have HG := HG_
      have HR := HR_
      have HX := HX_
      have HY := HY_
      have HO := HO_
      clear HG_ HR_ HX_ HY_ HO_
      go_wp2_with fail
      clear lHX cHX fHX lHY cHY fHY hne01 hne10
      generalize (((((w5.setCell ⟨m, 0, none⟩ (.int .i64 2)).setCell ⟨m, 14, none⟩ (.bool ob)).setCell ⟨m, 15, none⟩ (.int .i64 on)).setCell ⟨m, 16, none⟩ (.string om)).setCell ⟨m, 17, none⟩ (.slice A ol.length c)) = w6 at *
      refine (IH.out _ _ HR.out).mono ?_
      rintro e w7 ⟨hg, ⟨th, us2, v, hp, rfl, hv, hr, hle⟩ | ⟨er, at_, hp, rfl⟩⟩
      · skip
        obtain ⟨A6, c6, rfl⟩ := hv.slice
        rw [Stm.ds_length] at hv ⊢
        have hm3 := blk_lt HY.out
        have HT := Lib.hid (hv.low (m := m + 1) (by omega))
        clear hv hm3
        have HP3 := Lib.hid hp
        have HLE3 := Lib.hid hle
        clear hp hle
        have HG_ := Lib.hid (World.grownBy.trans HG.out hg)
        have HR_ := Lib.hid hr
        have HX_ := Lib.hid (HX.out.kept hg (by omega))
        have HY_ := Lib.hid (HY.out.kept hg (by omega))
        have HO_ := Lib.hid (HO.out.kept hg (by omega))
        clear hg hr HG HR HX HY HO
        have HG := HG_
        have HR := HR_
        have HX := HX_
        have HY := HY_
        have HO := HO_
        clear HG_ HR_ HX_ HY_ HO_
        obtain ⟨lHX, cHX, fHX⟩ := HX.out.see
        obtain ⟨lHY, cHY, fHY⟩ := HY.out.see
        have hne01 : (W.heap.size = m) = False := eq_false (by omega)
        have hne10 : (m = W.heap.size) = False := eq_false (by omega)
        have HPUT := Lib.hid (Put.set (Put.refl W.heap.size (m + 1) w7) (p := ⟨m, 18, none⟩) (by simp only; omega) (by simp only; omega) (.slice A6 th.length c6))
        have HG_ := Lib.hid (HPUT.out.grown HG.out (Nat.le_refl _))
        have HR_ := Lib.hid (HR.out.put HPUT.out hR)
        have HX_ := Lib.hid (HX.out.far (p := ⟨m, 18, none⟩) (by simp only; omega) (.slice A6 th.length c6))
        have HY_ : Hid (Bx 65 (w7.setCell ⟨m, 18, none⟩ (.slice A6 th.length c6)) m #[.int .i64 2, .int .i64 at_, .string ⟨#[]⟩, .int .i64 0, .string ⟨#[]⟩, .slice none 0 0, .string ⟨#[]⟩, .slice none 0 0, .int .i64 0, .slice none 0 0, .string ⟨#[]⟩, .slice none 0 0, .string ⟨#[]⟩, .string ⟨#[]⟩, .bool ob, .int .i64 on, .string om, .slice A ol.length c, .slice A6 th.length c6, .slice none 0 0, .slice none 0 0]) := Lib.hid (by have h := (HY.out.set 18 (.slice A6 th.length c6)); simpa using h)
        have HO_ := Lib.hid (HO.out.put HPUT.out (by omega))
        have HT_ := Lib.hid (HT.out.put HPUT.out (by omega))
        clear HPUT HG HR HX HY HO HT
        have HG := HG_
        have HR := HR_
        have HX := HX_
        have HY := HY_
        have HO := HO_
        have HT := HT_
        clear HG_ HR_ HX_ HY_ HO_ HT_
        go_wp2_with fail
        clear lHX cHX fHX lHY cHY fHY hne01 hne10
        generalize (w7.setCell ⟨m, 18, none⟩ (.slice A6 th.length c6)) = w8 at *
        refine (opt_rd HR.out ⟨#[101, 108, 115, 101]⟩).mono ?_
        rintro e w9 ⟨hg, ⟨hw, rfl, hr⟩ | ⟨hw, rfl, hr⟩⟩
        · skip
          have HW4 := Lib.hid hw
          have HLT4 := Lib.hid (isW_pos hw)
          clear hw
          have HG_ := Lib.hid (World.grownBy.trans HG.out hg)
          have HR_ := Lib.hid hr
          have HX_ := Lib.hid (HX.out.kept hg (by omega))
          have HY_ := Lib.hid (HY.out.kept hg (by omega))
          have HO_ := Lib.hid (HO.out.kept hg (by omega))
          have HT_ := Lib.hid (HT.out.kept hg (by omega))
          clear hg hr HG HR HX HY HO HT
          have HG := HG_
          have HR := HR_
          have HX := HX_
          have HY := HY_
          have HO := HO_
          have HT := HT_
          clear HG_ HR_ HX_ HY_ HO_ HT_
          go_wp2_with fail
          refine (IH.out _ _ HR.out).mono ?_
          rintro e w10 ⟨hg, ⟨el, us3, v, hp, rfl, hv, hr, hle⟩ | ⟨er, at_, hp, rfl⟩⟩
          · skip
            obtain ⟨A7, cA7, rfl⟩ := hv.slice
            rw [Stm.ds_length] at hv ⊢
            have hm3 := blk_lt HY.out
            have HE := Lib.hid (hv.low (m := m + 1) (by omega))
            clear hv hm3
            have HP5 := Lib.hid hp
            have HLE5 := Lib.hid hle
            clear hp hle
            have HG_ := Lib.hid (World.grownBy.trans HG.out hg)
            have HR_ := Lib.hid hr
            have HX_ := Lib.hid (HX.out.kept hg (by omega))
            have HY_ := Lib.hid (HY.out.kept hg (by omega))
            have HO_ := Lib.hid (HO.out.kept hg (by omega))
            have HT_ := Lib.hid (HT.out.kept hg (by omega))
            clear hg hr HG HR HX HY HO HT
            have HG := HG_
            have HR := HR_
            have HX := HX_
            have HY := HY_
            have HO := HO_
            have HT := HT_
            clear HG_ HR_ HX_ HY_ HO_ HT_
            have HPF : Hid ((stmtP (blockP k)) ts = .ok (.mk 2 at_ noB .zero .zero .zero ⟨ob, on, ⟨om, ol⟩⟩ th el [], us3)) := Lib.hid (by rw [stmtP, ← HAT.out, stmtQ, optE_t HW1.out, Ps.bd_ok HP2.out, Ps.bd_ok HP3.out, optE_t HW4.out, Ps.bd_ok HP5.out]; exact rfl)
            have HPUT : ∀ w', Put W.heap.size (m + 1) w10 w' → Does (stmtP (blockP k)) (Leads W Stm.d) W R ts (.returned (.agg #[.int .i64 2, .int .i64 at_, .string ⟨#[]⟩, .int .i64 0, .string ⟨#[]⟩, .slice none 0 0, .string ⟨#[]⟩, .slice none 0 0, .int .i64 0, .slice none 0 0, .string ⟨#[]⟩, .slice none 0 0, .string ⟨#[]⟩, .string ⟨#[]⟩, .bool ob, .int .i64 on, .string om, .slice A ol.length c, .slice A6 th.length c6, .slice A7 el.length cA7, .slice none 0 0])) w' := fun w' hput => ⟨hput.grown HG.out (Nat.le_refl _), .inl ⟨.mk 2 at_ noB .zero .zero .zero ⟨ob, on, ⟨om, ol⟩⟩ th el [], us3, _, HPF.out, rfl, ⟨_, rfl, stm_rds (by simp only [Ty.ds]; exact (Rd.nil _ _ _ _)) (Rd.nil _ _ _ _) (Rd.nil _ _ _ _) (Rd.nil _ _ _ _) ((HO.out.put hput (Nat.le_refl _)).low (by omega)) ((HT.out.put hput (Nat.le_refl _)).low (by omega)) ((HE.out.put hput (Nat.le_refl _)).low (by omega)) (by simp only [Arm.ds]; exact (Rd.nil _ _ _ _))⟩, HR.out.put hput hR, by have := HLT1.out; have := HLE2.out; have := HLE3.out; have := HLT4.out; have := HLE5.out; first | omega | (simp at *; done) | (simp at *; omega)⟩⟩
            have hyo : (w10.setCell ⟨m, 19, none⟩ (.slice A7 el.length cA7)).heap[m]? = some (.cells #[.int .i64 2, .int .i64 at_, .string ⟨#[]⟩, .int .i64 0, .string ⟨#[]⟩, .slice none 0 0, .string ⟨#[]⟩, .slice none 0 0, .int .i64 0, .slice none 0 0, .string ⟨#[]⟩, .slice none 0 0, .string ⟨#[]⟩, .string ⟨#[]⟩, .bool ob, .int .i64 on, .string om, .slice A ol.length c, .slice A6 th.length c6, .slice A7 el.length cA7, .slice none 0 0] 65 (0, 0)) := (by have h : Bx 65 (w10.setCell ⟨m, 19, none⟩ (.slice A7 el.length cA7)) m _ := (Bx.set HY.out 19 (.slice A7 el.length cA7)); simpa [Bx] using h)
            have hxo : (w10.setCell ⟨m, 19, none⟩ (.slice A7 el.length cA7)).heap[W.heap.size]? = some (.cells #[.int .i64 0, .int .i64 0, .string ⟨#[]⟩, .int .i64 0, .string ⟨#[]⟩, .slice none 0 0, .string ⟨#[]⟩, .slice none 0 0, .int .i64 0, .slice none 0 0, .string ⟨#[]⟩, .slice none 0 0, .string ⟨#[]⟩, .string ⟨#[]⟩, .bool false, .int .i64 0, .string ⟨#[]⟩, .slice none 0 0, .slice none 0 0, .slice none 0 0, .slice none 0 0] 65 (0, 0)) := (Bx.far HX.out (p := ⟨m, 19, none⟩) (by simp only; omega) (.slice A7 el.length cA7))
            have hpt : Put W.heap.size (m + 1) w10 (w10.setCell ⟨m, 19, none⟩ (.slice A7 el.length cA7)) := ((Put.refl W.heap.size (m + 1) w10).set (p := ⟨m, 19, none⟩) (by simp only; omega) (by simp only; omega) (.slice A7 el.length cA7))
            obtain ⟨lHY, cHY, fHY⟩ := HY.out.see
            go_wp2_with (first
              | (with_reducible refine wpList_load_row (o := ⟨some 29, .load 65 (.tmp 5), _, _, _, _⟩) rfl 65 _ rfl (m) rfl 65 #[.int .i64 2, .int .i64 at_, .string ⟨#[]⟩, .int .i64 0, .string ⟨#[]⟩, .slice none 0 0, .string ⟨#[]⟩, .slice none 0 0, .int .i64 0, .slice none 0 0, .string ⟨#[]⟩, .slice none 0 0, .string ⟨#[]⟩, .string ⟨#[]⟩, .bool ob, .int .i64 on, .string om, .slice A ol.length c, .slice A6 th.length c6, .slice A7 el.length cA7, .slice none 0 0] (0, 0) _ hyo Tryd.underlying65 (by kernel_rfl) (by kernel_rfl) ?_)
              | (with_reducible refine wpList_store_row (o := ⟨none, .store 65 (.tmp 4) (.tmp 29), _, _, _, _⟩) rfl 65 _ _ rfl (W.heap.size) #[.int .i64 2, .int .i64 at_, .string ⟨#[]⟩, .int .i64 0, .string ⟨#[]⟩, .slice none 0 0, .string ⟨#[]⟩, .slice none 0 0, .int .i64 0, .slice none 0 0, .string ⟨#[]⟩, .slice none 0 0, .string ⟨#[]⟩, .string ⟨#[]⟩, .bool ob, .int .i64 on, .string om, .slice A ol.length c, .slice A6 th.length c6, .slice A7 el.length cA7, .slice none 0 0] rfl rfl 65 #[.int .i64 0, .int .i64 0, .string ⟨#[]⟩, .int .i64 0, .string ⟨#[]⟩, .slice none 0 0, .string ⟨#[]⟩, .slice none 0 0, .int .i64 0, .slice none 0 0, .string ⟨#[]⟩, .slice none 0 0, .string ⟨#[]⟩, .string ⟨#[]⟩, .bool false, .int .i64 0, .string ⟨#[]⟩, .slice none 0 0, .slice none 0 0, .slice none 0 0, .slice none 0 0] (hxo) (by kernel_rfl) (by kernel_rfl) (by kernel_rfl) ?_))
            refine bodyPost_ret (results_cell_row rfl _ _ W.heap.size 65 #[.int .i64 2, .int .i64 at_, .string ⟨#[]⟩, .int .i64 0, .string ⟨#[]⟩, .slice none 0 0, .string ⟨#[]⟩, .slice none 0 0, .int .i64 0, .slice none 0 0, .string ⟨#[]⟩, .slice none 0 0, .string ⟨#[]⟩, .string ⟨#[]⟩, .bool ob, .int .i64 on, .string om, .slice A ol.length c, .slice A6 th.length c6, .slice A7 el.length cA7, .slice none 0 0] (0, 0) _ rfl (setRow_heap _ _ _ _ _ _ hxo) Tryd.underlying65 rfl (by kernel_rfl)) rfl (HPUT _ ?_)
            exact hpt.row (Nat.le_refl _) (by omega) _
          · go_wp2_with fail
            exact ⟨rfl, World.grownBy.trans HG.out hg, .inr ⟨er, at_, (by rw [stmtP, ← HAT.out, stmtQ, optE_t HW1.out, Ps.bd_ok HP2.out, Ps.bd_ok HP3.out, optE_t HW4.out]; exact Ps.bd_err hp), rfl⟩⟩
        · skip
          have HW4 := Lib.hid hw
          clear hw
          have HG_ := Lib.hid (World.grownBy.trans HG.out hg)
          have HR_ := Lib.hid hr
          have HX_ := Lib.hid (HX.out.kept hg (by omega))
          have HY_ := Lib.hid (HY.out.kept hg (by omega))
          have HO_ := Lib.hid (HO.out.kept hg (by omega))
          have HT_ := Lib.hid (HT.out.kept hg (by omega))
          clear hg hr HG HR HX HY HO HT
          have HG := HG_
          have HR := HR_
          have HX := HX_
          have HY := HY_
          have HO := HO_
          have HT := HT_
          clear HG_ HR_ HX_ HY_ HO_ HT_
          have HPF : Hid ((stmtP (blockP k)) ts = .ok (.mk 2 at_ noB .zero .zero .zero ⟨ob, on, ⟨om, ol⟩⟩ th [] [], us2)) := Lib.hid (by rw [stmtP, ← HAT.out, stmtQ, optE_t HW1.out, Ps.bd_ok HP2.out, Ps.bd_ok HP3.out, optE_f HW4.out]; exact rfl)
          have HPUT : ∀ w', Put W.heap.size (m + 1) w9 w' → Does (stmtP (blockP k)) (Leads W Stm.d) W R ts (.returned (.agg #[.int .i64 2, .int .i64 at_, .string ⟨#[]⟩, .int .i64 0, .string ⟨#[]⟩, .slice none 0 0, .string ⟨#[]⟩, .slice none 0 0, .int .i64 0, .slice none 0 0, .string ⟨#[]⟩, .slice none 0 0, .string ⟨#[]⟩, .string ⟨#[]⟩, .bool ob, .int .i64 on, .string om, .slice A ol.length c, .slice A6 th.length c6, .slice none 0 0, .slice none 0 0])) w' := fun w' hput => ⟨hput.grown HG.out (Nat.le_refl _), .inl ⟨.mk 2 at_ noB .zero .zero .zero ⟨ob, on, ⟨om, ol⟩⟩ th [] [], us2, _, HPF.out, rfl, ⟨_, rfl, stm_rds (by simp only [Ty.ds]; exact (Rd.nil _ _ _ _)) (Rd.nil _ _ _ _) (Rd.nil _ _ _ _) (Rd.nil _ _ _ _) ((HO.out.put hput (Nat.le_refl _)).low (by omega)) ((HT.out.put hput (Nat.le_refl _)).low (by omega)) (by simp only [Stm.ds]; exact (Rd.nil _ _ _ _)) (by simp only [Arm.ds]; exact (Rd.nil _ _ _ _))⟩, HR.out.put hput hR, by have := HLT1.out; have := HLE2.out; have := HLE3.out; first | omega | (simp at *; done) | (simp at *; omega)⟩⟩
          have hyo : w9.heap[m]? = some (.cells #[.int .i64 2, .int .i64 at_, .string ⟨#[]⟩, .int .i64 0, .string ⟨#[]⟩, .slice none 0 0, .string ⟨#[]⟩, .slice none 0 0, .int .i64 0, .slice none 0 0, .string ⟨#[]⟩, .slice none 0 0, .string ⟨#[]⟩, .string ⟨#[]⟩, .bool ob, .int .i64 on, .string om, .slice A ol.length c, .slice A6 th.length c6, .slice none 0 0, .slice none 0 0] 65 (0, 0)) := HY.out
          have hxo : w9.heap[W.heap.size]? = some (.cells #[.int .i64 0, .int .i64 0, .string ⟨#[]⟩, .int .i64 0, .string ⟨#[]⟩, .slice none 0 0, .string ⟨#[]⟩, .slice none 0 0, .int .i64 0, .slice none 0 0, .string ⟨#[]⟩, .slice none 0 0, .string ⟨#[]⟩, .string ⟨#[]⟩, .bool false, .int .i64 0, .string ⟨#[]⟩, .slice none 0 0, .slice none 0 0, .slice none 0 0, .slice none 0 0] 65 (0, 0)) := HX.out
          have hpt : Put W.heap.size (m + 1) w9 w9 := (Put.refl W.heap.size (m + 1) w9)
          go_wp2_with (first
            | (with_reducible refine wpList_load_row (o := ⟨some 29, .load 65 (.tmp 5), _, _, _, _⟩) rfl 65 _ rfl (m) rfl 65 #[.int .i64 2, .int .i64 at_, .string ⟨#[]⟩, .int .i64 0, .string ⟨#[]⟩, .slice none 0 0, .string ⟨#[]⟩, .slice none 0 0, .int .i64 0, .slice none 0 0, .string ⟨#[]⟩, .slice none 0 0, .string ⟨#[]⟩, .string ⟨#[]⟩, .bool ob, .int .i64 on, .string om, .slice A ol.length c, .slice A6 th.length c6, .slice none 0 0, .slice none 0 0] (0, 0) _ hyo Tryd.underlying65 (by kernel_rfl) (by kernel_rfl) ?_)
            | (with_reducible refine wpList_store_row (o := ⟨none, .store 65 (.tmp 4) (.tmp 29), _, _, _, _⟩) rfl 65 _ _ rfl (W.heap.size) #[.int .i64 2, .int .i64 at_, .string ⟨#[]⟩, .int .i64 0, .string ⟨#[]⟩, .slice none 0 0, .string ⟨#[]⟩, .slice none 0 0, .int .i64 0, .slice none 0 0, .string ⟨#[]⟩, .slice none 0 0, .string ⟨#[]⟩, .string ⟨#[]⟩, .bool ob, .int .i64 on, .string om, .slice A ol.length c, .slice A6 th.length c6, .slice none 0 0, .slice none 0 0] rfl rfl 65 #[.int .i64 0, .int .i64 0, .string ⟨#[]⟩, .int .i64 0, .string ⟨#[]⟩, .slice none 0 0, .string ⟨#[]⟩, .slice none 0 0, .int .i64 0, .slice none 0 0, .string ⟨#[]⟩, .slice none 0 0, .string ⟨#[]⟩, .string ⟨#[]⟩, .bool false, .int .i64 0, .string ⟨#[]⟩, .slice none 0 0, .slice none 0 0, .slice none 0 0, .slice none 0 0] (hxo) (by kernel_rfl) (by kernel_rfl) (by kernel_rfl) ?_))
          refine bodyPost_ret (results_cell_row rfl _ _ W.heap.size 65 #[.int .i64 2, .int .i64 at_, .string ⟨#[]⟩, .int .i64 0, .string ⟨#[]⟩, .slice none 0 0, .string ⟨#[]⟩, .slice none 0 0, .int .i64 0, .slice none 0 0, .string ⟨#[]⟩, .slice none 0 0, .string ⟨#[]⟩, .string ⟨#[]⟩, .bool ob, .int .i64 on, .string om, .slice A ol.length c, .slice A6 th.length c6, .slice none 0 0, .slice none 0 0] (0, 0) _ rfl (setRow_heap _ _ _ _ _ _ hxo) Tryd.underlying65 rfl (by kernel_rfl)) rfl (HPUT _ ?_)
          exact hpt.row (Nat.le_refl _) (by omega) _
      · go_wp2_with fail
        exact ⟨rfl, World.grownBy.trans HG.out hg, .inr ⟨er, at_, (by rw [stmtP, ← HAT.out, stmtQ, optE_t HW1.out, Ps.bd_ok HP2.out]; exact Ps.bd_err hp), rfl⟩⟩
    · go_wp2_with fail
      exact ⟨rfl, World.grownBy.trans HG.out hg, .inr ⟨er, at_, (by rw [stmtP, ← HAT.out, stmtQ, optE_t HW1.out]; exact Ps.bd_err hp), rfl⟩⟩
  · skip
    have HW1 := Lib.hid hw
    clear hw
    have HG_ := Lib.hid (World.grownBy.trans HG.out hg)
    have HR_ := Lib.hid hr
    have HX_ := Lib.hid (HX.out.kept hg (by omega))
    have HY_ := Lib.hid (HY.out.kept hg (by omega))
    have HS_ := Lib.hid (HS.out.kept hg)
    clear hg hr HG HR HX HY HS
    have HG := HG_
    have HR := HR_
    have HX := HX_
    have HY := HY_
    have HS := HS_
    clear HG_ HR_ HX_ HY_ HS_
    go_wp2_with fail
    refine (opt_rd HR.out ⟨#[119, 104, 105, 108, 101]⟩).mono ?_
    rintro e w11 ⟨hg, ⟨hw, rfl, hr⟩ | ⟨hw, rfl, hr⟩⟩
    · skip
      have HW6 := Lib.hid hw
      have HLT6 := Lib.hid (isW_pos hw)
      clear hw
      have HG_ := Lib.hid (World.grownBy.trans HG.out hg)
      have HR_ := Lib.hid hr
      have HX_ := Lib.hid (HX.out.kept hg (by omega))
      have HY_ := Lib.hid (HY.out.kept hg (by omega))
      have HS_ := Lib.hid (HS.out.kept hg)
      clear hg hr HG HR HX HY HS
      have HG := HG_
      have HR := HR_
      have HX := HX_
      have HY := HY_
      have HS := HS_
      clear HG_ HR_ HX_ HY_ HS_
      go_wp2_with fail
      refine (oper_rd HR.out).mono ?_
      rintro e w12 ⟨hg, ⟨o, us, v, hp, rfl, hv, hr, hle⟩ | ⟨er, at_, hp, rfl⟩⟩
      · skip
        obtain ⟨ob, on, om, ol, A, c, rfl, rfl, hl⟩ := hv.opr
        have hm3 := blk_lt HY.out
        have HO := Lib.hid (hl.low (m := m + 1) (by omega))
        clear hl hv hm3
        have HP7 := Lib.hid hp
        have HLE7 := Lib.hid hle
        clear hp hle
        have HG_ := Lib.hid (World.grownBy.trans HG.out hg)
        have HR_ := Lib.hid hr
        have HX_ := Lib.hid (HX.out.kept hg (by omega))
        have HY_ := Lib.hid (HY.out.kept hg (by omega))
        have HS_ := Lib.hid (HS.out.kept hg)
        clear hg hr HG HR HX HY HS
        have HG := HG_
        have HR := HR_
        have HX := HX_
        have HY := HY_
        have HS := HS_
        clear HG_ HR_ HX_ HY_ HS_
        clear HS
        obtain ⟨lHX, cHX, fHX⟩ := HX.out.see
        obtain ⟨lHY, cHY, fHY⟩ := HY.out.see
        have hne01 : (W.heap.size = m) = False := eq_false (by omega)
        have hne10 : (m = W.heap.size) = False := eq_false (by omega)
        have HPUT := Lib.hid (Put.set (Put.set (Put.set (Put.set (Put.set (Put.refl W.heap.size (m + 1) w12) (p := ⟨m, 0, none⟩) (by simp only; omega) (by simp only; omega) (.int .i64 3)) (p := ⟨m, 14, none⟩) (by simp only; omega) (by simp only; omega) (.bool ob)) (p := ⟨m, 15, none⟩) (by simp only; omega) (by simp only; omega) (.int .i64 on)) (p := ⟨m, 16, none⟩) (by simp only; omega) (by simp only; omega) (.string om)) (p := ⟨m, 17, none⟩) (by simp only; omega) (by simp only; omega) (.slice A ol.length c))
        have HG_ := Lib.hid (HPUT.out.grown HG.out (Nat.le_refl _))
        have HR_ := Lib.hid (HR.out.put HPUT.out hR)
        have HX_ := Lib.hid (((((HX.out.far (p := ⟨m, 0, none⟩) (by simp only; omega) (.int .i64 3)).far (p := ⟨m, 14, none⟩) (by simp only; omega) (.bool ob)).far (p := ⟨m, 15, none⟩) (by simp only; omega) (.int .i64 on)).far (p := ⟨m, 16, none⟩) (by simp only; omega) (.string om)).far (p := ⟨m, 17, none⟩) (by simp only; omega) (.slice A ol.length c))
        have HY_ : Hid (Bx 65 (((((w12.setCell ⟨m, 0, none⟩ (.int .i64 3)).setCell ⟨m, 14, none⟩ (.bool ob)).setCell ⟨m, 15, none⟩ (.int .i64 on)).setCell ⟨m, 16, none⟩ (.string om)).setCell ⟨m, 17, none⟩ (.slice A ol.length c)) m #[.int .i64 3, .int .i64 at_, .string ⟨#[]⟩, .int .i64 0, .string ⟨#[]⟩, .slice none 0 0, .string ⟨#[]⟩, .slice none 0 0, .int .i64 0, .slice none 0 0, .string ⟨#[]⟩, .slice none 0 0, .string ⟨#[]⟩, .string ⟨#[]⟩, .bool ob, .int .i64 on, .string om, .slice A ol.length c, .slice none 0 0, .slice none 0 0, .slice none 0 0]) := Lib.hid (by have h := (((((HY.out.set 0 (.int .i64 3)).set 14 (.bool ob)).set 15 (.int .i64 on)).set 16 (.string om)).set 17 (.slice A ol.length c)); simpa using h)
        have HO_ := Lib.hid (HO.out.put HPUT.out (by omega))
        clear HPUT HG HR HX HY HO
        have HG := HG_
        have HR := HR_
        have HX := HX_
        have HY := HY_
        have HO := HO_
        clear HG_ HR_ HX_ HY_ HO_
        go_wp2_with fail
        clear lHX cHX fHX lHY cHY fHY hne01 hne10
        generalize (((((w12.setCell ⟨m, 0, none⟩ (.int .i64 3)).setCell ⟨m, 14, none⟩ (.bool ob)).setCell ⟨m, 15, none⟩ (.int .i64 on)).setCell ⟨m, 16, none⟩ (.string om)).setCell ⟨m, 17, none⟩ (.slice A ol.length c)) = w13 at *
        refine (IH.out _ _ HR.out).mono ?_
        rintro e w14 ⟨hg, ⟨th, us2, v, hp, rfl, hv, hr, hle⟩ | ⟨er, at_, hp, rfl⟩⟩
        · skip
          obtain ⟨A6, c6, rfl⟩ := hv.slice
          rw [Stm.ds_length] at hv ⊢
          have hm3 := blk_lt HY.out
          have HT := Lib.hid (hv.low (m := m + 1) (by omega))
          clear hv hm3
          have HP8 := Lib.hid hp
          have HLE8 := Lib.hid hle
          clear hp hle
          have HG_ := Lib.hid (World.grownBy.trans HG.out hg)
          have HR_ := Lib.hid hr
          have HX_ := Lib.hid (HX.out.kept hg (by omega))
          have HY_ := Lib.hid (HY.out.kept hg (by omega))
          have HO_ := Lib.hid (HO.out.kept hg (by omega))
          clear hg hr HG HR HX HY HO
          have HG := HG_
          have HR := HR_
          have HX := HX_
          have HY := HY_
          have HO := HO_
          clear HG_ HR_ HX_ HY_ HO_
          have HPF : Hid ((stmtP (blockP k)) ts = .ok (.mk 3 at_ noB .zero .zero .zero ⟨ob, on, ⟨om, ol⟩⟩ th [] [], us2)) := Lib.hid (by rw [stmtP, ← HAT.out, stmtQ, optE_f HW1.out, optE_t HW6.out, Ps.bd_ok HP7.out, Ps.bd_ok HP8.out]; exact rfl)
          have HPUT : ∀ w', Put W.heap.size (m + 1) w14 w' → Does (stmtP (blockP k)) (Leads W Stm.d) W R ts (.returned (.agg #[.int .i64 3, .int .i64 at_, .string ⟨#[]⟩, .int .i64 0, .string ⟨#[]⟩, .slice none 0 0, .string ⟨#[]⟩, .slice none 0 0, .int .i64 0, .slice none 0 0, .string ⟨#[]⟩, .slice none 0 0, .string ⟨#[]⟩, .string ⟨#[]⟩, .bool ob, .int .i64 on, .string om, .slice A ol.length c, .slice A6 th.length c6, .slice none 0 0, .slice none 0 0])) w' := fun w' hput => ⟨hput.grown HG.out (Nat.le_refl _), .inl ⟨.mk 3 at_ noB .zero .zero .zero ⟨ob, on, ⟨om, ol⟩⟩ th [] [], us2, _, HPF.out, rfl, ⟨_, rfl, stm_rds (by simp only [Ty.ds]; exact (Rd.nil _ _ _ _)) (Rd.nil _ _ _ _) (Rd.nil _ _ _ _) (Rd.nil _ _ _ _) ((HO.out.put hput (Nat.le_refl _)).low (by omega)) ((HT.out.put hput (Nat.le_refl _)).low (by omega)) (by simp only [Stm.ds]; exact (Rd.nil _ _ _ _)) (by simp only [Arm.ds]; exact (Rd.nil _ _ _ _))⟩, HR.out.put hput hR, by have := HLT6.out; have := HLE7.out; have := HLE8.out; first | omega | (simp at *; done) | (simp at *; omega)⟩⟩
          have hyo : (w14.setCell ⟨m, 18, none⟩ (.slice A6 th.length c6)).heap[m]? = some (.cells #[.int .i64 3, .int .i64 at_, .string ⟨#[]⟩, .int .i64 0, .string ⟨#[]⟩, .slice none 0 0, .string ⟨#[]⟩, .slice none 0 0, .int .i64 0, .slice none 0 0, .string ⟨#[]⟩, .slice none 0 0, .string ⟨#[]⟩, .string ⟨#[]⟩, .bool ob, .int .i64 on, .string om, .slice A ol.length c, .slice A6 th.length c6, .slice none 0 0, .slice none 0 0] 65 (0, 0)) := (by have h : Bx 65 (w14.setCell ⟨m, 18, none⟩ (.slice A6 th.length c6)) m _ := (Bx.set HY.out 18 (.slice A6 th.length c6)); simpa [Bx] using h)
          have hxo : (w14.setCell ⟨m, 18, none⟩ (.slice A6 th.length c6)).heap[W.heap.size]? = some (.cells #[.int .i64 0, .int .i64 0, .string ⟨#[]⟩, .int .i64 0, .string ⟨#[]⟩, .slice none 0 0, .string ⟨#[]⟩, .slice none 0 0, .int .i64 0, .slice none 0 0, .string ⟨#[]⟩, .slice none 0 0, .string ⟨#[]⟩, .string ⟨#[]⟩, .bool false, .int .i64 0, .string ⟨#[]⟩, .slice none 0 0, .slice none 0 0, .slice none 0 0, .slice none 0 0] 65 (0, 0)) := (Bx.far HX.out (p := ⟨m, 18, none⟩) (by simp only; omega) (.slice A6 th.length c6))
          have hpt : Put W.heap.size (m + 1) w14 (w14.setCell ⟨m, 18, none⟩ (.slice A6 th.length c6)) := ((Put.refl W.heap.size (m + 1) w14).set (p := ⟨m, 18, none⟩) (by simp only; omega) (by simp only; omega) (.slice A6 th.length c6))
          obtain ⟨lHY, cHY, fHY⟩ := HY.out.see
          go_wp2_with (first
            | (with_reducible refine wpList_load_row (o := ⟨some 42, .load 65 (.tmp 5), _, _, _, _⟩) rfl 65 _ rfl (m) rfl 65 #[.int .i64 3, .int .i64 at_, .string ⟨#[]⟩, .int .i64 0, .string ⟨#[]⟩, .slice none 0 0, .string ⟨#[]⟩, .slice none 0 0, .int .i64 0, .slice none 0 0, .string ⟨#[]⟩, .slice none 0 0, .string ⟨#[]⟩, .string ⟨#[]⟩, .bool ob, .int .i64 on, .string om, .slice A ol.length c, .slice A6 th.length c6, .slice none 0 0, .slice none 0 0] (0, 0) _ hyo Tryd.underlying65 (by kernel_rfl) (by kernel_rfl) ?_)
            | (with_reducible refine wpList_store_row (o := ⟨none, .store 65 (.tmp 4) (.tmp 42), _, _, _, _⟩) rfl 65 _ _ rfl (W.heap.size) #[.int .i64 3, .int .i64 at_, .string ⟨#[]⟩, .int .i64 0, .string ⟨#[]⟩, .slice none 0 0, .string ⟨#[]⟩, .slice none 0 0, .int .i64 0, .slice none 0 0, .string ⟨#[]⟩, .slice none 0 0, .string ⟨#[]⟩, .string ⟨#[]⟩, .bool ob, .int .i64 on, .string om, .slice A ol.length c, .slice A6 th.length c6, .slice none 0 0, .slice none 0 0] rfl rfl 65 #[.int .i64 0, .int .i64 0, .string ⟨#[]⟩, .int .i64 0, .string ⟨#[]⟩, .slice none 0 0, .string ⟨#[]⟩, .slice none 0 0, .int .i64 0, .slice none 0 0, .string ⟨#[]⟩, .slice none 0 0, .string ⟨#[]⟩, .string ⟨#[]⟩, .bool false, .int .i64 0, .string ⟨#[]⟩, .slice none 0 0, .slice none 0 0, .slice none 0 0, .slice none 0 0] (hxo) (by kernel_rfl) (by kernel_rfl) (by kernel_rfl) ?_))
          refine bodyPost_ret (results_cell_row rfl _ _ W.heap.size 65 #[.int .i64 3, .int .i64 at_, .string ⟨#[]⟩, .int .i64 0, .string ⟨#[]⟩, .slice none 0 0, .string ⟨#[]⟩, .slice none 0 0, .int .i64 0, .slice none 0 0, .string ⟨#[]⟩, .slice none 0 0, .string ⟨#[]⟩, .string ⟨#[]⟩, .bool ob, .int .i64 on, .string om, .slice A ol.length c, .slice A6 th.length c6, .slice none 0 0, .slice none 0 0] (0, 0) _ rfl (setRow_heap _ _ _ _ _ _ hxo) Tryd.underlying65 rfl (by kernel_rfl)) rfl (HPUT _ ?_)
          exact hpt.row (Nat.le_refl _) (by omega) _
        · go_wp2_with fail
          exact ⟨rfl, World.grownBy.trans HG.out hg, .inr ⟨er, at_, (by rw [stmtP, ← HAT.out, stmtQ, optE_f HW1.out, optE_t HW6.out, Ps.bd_ok HP7.out]; exact Ps.bd_err hp), rfl⟩⟩
      · go_wp2_with fail
        exact ⟨rfl, World.grownBy.trans HG.out hg, .inr ⟨er, at_, (by rw [stmtP, ← HAT.out, stmtQ, optE_f HW1.out, optE_t HW6.out]; exact Ps.bd_err hp), rfl⟩⟩
    · skip
      have HW6 := Lib.hid hw
      clear hw
      have HG_ := Lib.hid (World.grownBy.trans HG.out hg)
      have HR_ := Lib.hid hr
      have HX_ := Lib.hid (HX.out.kept hg (by omega))
      have HY_ := Lib.hid (HY.out.kept hg (by omega))
      have HS_ := Lib.hid (HS.out.kept hg)
      clear hg hr HG HR HX HY HS
      have HG := HG_
      have HR := HR_
      have HX := HX_
      have HY := HY_
      have HS := HS_
      clear HG_ HR_ HX_ HY_ HS_
      go_wp2_with fail
      refine (opt_rd HR.out ⟨#[109, 97, 116, 99, 104]⟩).mono ?_
      rintro e w15 ⟨hg, ⟨hw, rfl, hr⟩ | ⟨hw, rfl, hr⟩⟩
      · skip
        have HW9 := Lib.hid hw
        have HLT9 := Lib.hid (isW_pos hw)
        clear hw
        have HG_ := Lib.hid (World.grownBy.trans HG.out hg)
        have HR_ := Lib.hid hr
        have HX_ := Lib.hid (HX.out.kept hg (by omega))
        have HY_ := Lib.hid (HY.out.kept hg (by omega))
        have HS_ := Lib.hid (HS.out.kept hg)
        clear hg hr HG HR HX HY HS
        have HG := HG_
        have HR := HR_
        have HX := HX_
        have HY := HY_
        have HS := HS_
        clear HG_ HR_ HX_ HY_ HS_
        go_wp2_with fail
        refine (bare_rd HR.out).mono ?_
        rintro e w16 ⟨hg, ⟨p, us, v, hp, rfl, hv, hr, hle⟩ | ⟨er, at_, hp, rfl⟩⟩
        · skip
          obtain ⟨qn, ql, A, c, rfl, rfl, hl⟩ := hv.plc
          have hm3 := blk_lt HY.out
          have HQ := Lib.hid (hl.low (m := m + 1) (by omega))
          clear hl hv hm3
          have HP10 := Lib.hid hp
          have HLE10 := Lib.hid hle
          clear hp hle
          have HG_ := Lib.hid (World.grownBy.trans HG.out hg)
          have HR_ := Lib.hid hr
          have HX_ := Lib.hid (HX.out.kept hg (by omega))
          have HY_ := Lib.hid (HY.out.kept hg (by omega))
          have HS_ := Lib.hid (HS.out.kept hg)
          clear hg hr HG HR HX HY HS
          have HG := HG_
          have HR := HR_
          have HX := HX_
          have HY := HY_
          have HS := HS_
          clear HG_ HR_ HX_ HY_ HS_
          clear HS
          obtain ⟨lHX, cHX, fHX⟩ := HX.out.see
          obtain ⟨lHY, cHY, fHY⟩ := HY.out.see
          have hne01 : (W.heap.size = m) = False := eq_false (by omega)
          have hne10 : (m = W.heap.size) = False := eq_false (by omega)
          have HPUT := Lib.hid (Put.set (Put.set (Put.set (Put.refl W.heap.size (m + 1) w16) (p := ⟨m, 0, none⟩) (by simp only; omega) (by simp only; omega) (.int .i64 4)) (p := ⟨m, 6, none⟩) (by simp only; omega) (by simp only; omega) (.string qn)) (p := ⟨m, 7, none⟩) (by simp only; omega) (by simp only; omega) (.slice A ql.length c))
          have HG_ := Lib.hid (HPUT.out.grown HG.out (Nat.le_refl _))
          have HR_ := Lib.hid (HR.out.put HPUT.out hR)
          have HX_ := Lib.hid (((HX.out.far (p := ⟨m, 0, none⟩) (by simp only; omega) (.int .i64 4)).far (p := ⟨m, 6, none⟩) (by simp only; omega) (.string qn)).far (p := ⟨m, 7, none⟩) (by simp only; omega) (.slice A ql.length c))
          have HY_ : Hid (Bx 65 (((w16.setCell ⟨m, 0, none⟩ (.int .i64 4)).setCell ⟨m, 6, none⟩ (.string qn)).setCell ⟨m, 7, none⟩ (.slice A ql.length c)) m #[.int .i64 4, .int .i64 at_, .string ⟨#[]⟩, .int .i64 0, .string ⟨#[]⟩, .slice none 0 0, .string qn, .slice A ql.length c, .int .i64 0, .slice none 0 0, .string ⟨#[]⟩, .slice none 0 0, .string ⟨#[]⟩, .string ⟨#[]⟩, .bool false, .int .i64 0, .string ⟨#[]⟩, .slice none 0 0, .slice none 0 0, .slice none 0 0, .slice none 0 0]) := Lib.hid (by have h := (((HY.out.set 0 (.int .i64 4)).set 6 (.string qn)).set 7 (.slice A ql.length c)); simpa using h)
          have HQ_ := Lib.hid (HQ.out.put HPUT.out (by omega))
          clear HPUT HG HR HX HY HQ
          have HG := HG_
          have HR := HR_
          have HX := HX_
          have HY := HY_
          have HQ := HQ_
          clear HG_ HR_ HX_ HY_ HQ_
          go_wp2_with fail
          clear lHX cHX fHX lHY cHY fHY hne01 hne10
          generalize (((w16.setCell ⟨m, 0, none⟩ (.int .i64 4)).setCell ⟨m, 6, none⟩ (.string qn)).setCell ⟨m, 7, none⟩ (.slice A ql.length c)) = w17 at *
          refine (must_rd HR.out ⟨#[123]⟩).mono ?_
          rintro e w18 ⟨hg, ⟨⟨⟩, us2, v, hp, rfl, rfl, hr, hle⟩ | ⟨er, at_, hp, rfl⟩⟩
          · skip
            have HP11 := Lib.hid hp
            have HLE11 := Lib.hid hle
            clear hp hle
            have HG_ := Lib.hid (World.grownBy.trans HG.out hg)
            have HR_ := Lib.hid hr
            have HX_ := Lib.hid (HX.out.kept hg (by omega))
            have HY_ := Lib.hid (HY.out.kept hg (by omega))
            have HQ_ := Lib.hid (HQ.out.kept hg (by omega))
            clear hg hr HG HR HX HY HQ
            have HG := HG_
            have HR := HR_
            have HX := HX_
            have HY := HY_
            have HQ := HQ_
            clear HG_ HR_ HX_ HY_ HQ_
            have HP : Hid (stmtP (blockP k) ts = ((armsP (blockP k) (us2.length + 1)).bd fun l => Ps.ret (Stm.mk 4 at_ noB .zero ⟨qn, ql⟩ .zero .zero [] [] ([] ++ l))) us2) := Lib.hid (by rw [stmtP, ← HAT.out, stmtQ, optE_f HW1.out, optE_f HW6.out, optE_t HW9.out, Ps.bd_ok HP10.out, Ps.bd_ok HP11.out]; rfl)
            obtain ⟨z, hzw, hzm⟩ : ∃ z, z ≤ w18.heap.size ∧ w18.heap.size ≤ z := ⟨_, Nat.le_refl _, Nat.le_refl _⟩
            have hmz : m < z := by have := blk_lt HY.out; omega
            have HA : Hid (Rd w18 (fun j => z ≤ j) (.slice none 0 0) (.row 77 3 (Arm.ds []))) := Lib.hid (by simp only [Arm.ds]; exact Rd.nil _ _ _ _)
            have HQb := Lib.hid (HQ.out.bound.mono (ok' := fun j => m + 1 ≤ j ∧ j < z) (fun k hk => ⟨hk.1, by have := hk.2; omega⟩))
            clear HQ hzm
            have HQ := HQb
            clear HQb
            have hus : us2.length ≤ ts.length := by have := HLT9.out; have := HLE10.out; have := HLE11.out; first | omega | (simp at *; omega)
            have hlen2 := hlen
            go_wp2_with fail
            go_loopg [] (us2.length + 1) (fun gk wr => ∃ (us' : List Tk) (acc : List Arm) (A9 : Option Addr) (c9 n : Nat), us'.length < gk ∧ us'.length < n ∧ acc.length + us'.length ≤ ts.length ∧ Hid (Rdr wr R us') ∧ Hid (W.grownBy wr (some R)) ∧ Hid (Bx 65 wr W.heap.size #[.int .i64 0, .int .i64 0, .string ⟨#[]⟩, .int .i64 0, .string ⟨#[]⟩, .slice none 0 0, .string ⟨#[]⟩, .slice none 0 0, .int .i64 0, .slice none 0 0, .string ⟨#[]⟩, .slice none 0 0, .string ⟨#[]⟩, .string ⟨#[]⟩, .bool false, .int .i64 0, .string ⟨#[]⟩, .slice none 0 0, .slice none 0 0, .slice none 0 0, .slice none 0 0]) ∧ Hid (Bx 65 wr m #[.int .i64 4, .int .i64 at_, .string ⟨#[]⟩, .int .i64 0, .string ⟨#[]⟩, .slice none 0 0, .string qn, .slice A ql.length c, .int .i64 0, .slice none 0 0, .string ⟨#[]⟩, .slice none 0 0, .string ⟨#[]⟩, .string ⟨#[]⟩, .bool false, .int .i64 0, .string ⟨#[]⟩, .slice none 0 0, .slice none 0 0, .slice none 0 0, .slice A9 acc.length c9]) ∧ z ≤ wr.heap.size ∧ Hid (Rd wr (fun j => z ≤ j) (.slice A9 acc.length c9) (.row 77 3 (Arm.ds acc))) ∧ Hid (Rd wr (fun j => m + 1 ≤ j ∧ j < z) (.slice A ql.length c) (.row 140 1 (ql.map stepD))) ∧ Hid (stmtP (blockP k) ts = ((armsP (blockP k) n).bd fun l => Ps.ret (Stm.mk 4 at_ noB .zero ⟨qn, ql⟩ .zero .zero [] [] (acc ++ l))) us'))
            case atStart => exact ⟨us2, [], none, 0, us2.length + 1, by omega, by omega, by simpa using hus, HR, HG, HX, HY, hzw, HA, HQ, HP⟩
            case round =>
              clear HR HG HX HY HA HQ HP hzw
              obtain ⟨us', acc, A9, c9, n, hgk, hn, hacc, HR, HG, HX, HY, hzw, HA, HQ, HP⟩ := hrel
              obtain ⟨n, rfl⟩ : ∃ j, n = j + 1 := ⟨n - 1, by omega⟩
              go_wp2_with fail
              refine (opt_rd HR.out ⟨#[125]⟩).mono ?_
              rintro e w80 ⟨hg, ⟨hw, rfl, hr⟩ | ⟨hw, rfl, hr⟩⟩
              · have HD := Lib.hid hw
                have HDL := Lib.hid (isW_pos hw)
                clear hw
                have HG_ := Lib.hid (World.grownBy.trans HG.out hg)
                have HR_ := Lib.hid hr
                have HX_ := Lib.hid (HX.out.kept hg (by omega))
                have HY_ := Lib.hid (HY.out.kept hg (by omega))
                have HA_ := Lib.hid (HA.out.kept hg (by omega))
                have HQ_ := Lib.hid (HQ.out.grown hg (fun k hk e => by injection e; have := hk.1; omega))
                have hzw_ := Nat.le_trans hzw hg.size
                clear hzw
                have hzw := hzw_
                clear hzw_
                clear hg hr HG HR HX HY HA HQ
                have HG := HG_
                have HR := HR_
                have HX := HX_
                have HY := HY_
                have HA := HA_
                have HQ := HQ_
                clear HG_ HR_ HX_ HY_ HA_ HQ_
                have HPE : Hid (stmtP (blockP k) ts = .ok (.mk 4 at_ noB .zero ⟨qn, ql⟩ .zero .zero [] [] acc, us'.tail)) := Lib.hid (by rw [HP.out]; exact arms_f (f := fun l => Stm.mk 4 at_ noB .zero ⟨qn, ql⟩ .zero .zero [] [] l) HD.out)
                have HPUT : ∀ w', Put W.heap.size (m + 1) w80 w' → Does (stmtP (blockP k)) (Leads W Stm.d) W R ts (.returned (.agg #[.int .i64 4, .int .i64 at_, .string ⟨#[]⟩, .int .i64 0, .string ⟨#[]⟩, .slice none 0 0, .string qn, .slice A ql.length c, .int .i64 0, .slice none 0 0, .string ⟨#[]⟩, .slice none 0 0, .string ⟨#[]⟩, .string ⟨#[]⟩, .bool false, .int .i64 0, .string ⟨#[]⟩, .slice none 0 0, .slice none 0 0, .slice none 0 0, .slice A9 acc.length c9])) w' := fun w' hput => ⟨hput.grown HG.out (Nat.le_refl _), .inl ⟨_, us'.tail, _, HPE.out, rfl, ⟨_, rfl, stm_rds (by simp only [Ty.ds]; exact (Rd.nil _ _ _ _)) (((HQ.out.mono (fun k hk => hk.1) : Rd w80 (fun j => m + 1 ≤ j) _ _).put hput (Nat.le_refl _)).low (by omega)) (Rd.nil _ _ _ _) (Rd.nil _ _ _ _) (Rd.nil _ _ _ _) (by simp only [Stm.ds]; exact (Rd.nil _ _ _ _)) (by simp only [Stm.ds]; exact (Rd.nil _ _ _ _)) ((HA.out.put hput (by omega)).low (by omega))⟩, HR.out.put hput hR, by have := HDL.out; omega⟩⟩
                have hyo : w80.heap[m]? = some (.cells #[.int .i64 4, .int .i64 at_, .string ⟨#[]⟩, .int .i64 0, .string ⟨#[]⟩, .slice none 0 0, .string qn, .slice A ql.length c, .int .i64 0, .slice none 0 0, .string ⟨#[]⟩, .slice none 0 0, .string ⟨#[]⟩, .string ⟨#[]⟩, .bool false, .int .i64 0, .string ⟨#[]⟩, .slice none 0 0, .slice none 0 0, .slice none 0 0, .slice A9 acc.length c9] 65 (0, 0)) := HY.out
                have hxo : w80.heap[W.heap.size]? = some (.cells #[.int .i64 0, .int .i64 0, .string ⟨#[]⟩, .int .i64 0, .string ⟨#[]⟩, .slice none 0 0, .string ⟨#[]⟩, .slice none 0 0, .int .i64 0, .slice none 0 0, .string ⟨#[]⟩, .slice none 0 0, .string ⟨#[]⟩, .string ⟨#[]⟩, .bool false, .int .i64 0, .string ⟨#[]⟩, .slice none 0 0, .slice none 0 0, .slice none 0 0, .slice none 0 0] 65 (0, 0)) := HX.out
                have hpt : Put W.heap.size (m + 1) w80 w80 := (Put.refl W.heap.size (m + 1) w80)
                go_wp2_with (first
                  | (with_reducible refine wpList_load_row (o := ⟨some 63, .load 65 (.tmp 5), _, _, _, _⟩) rfl 65 _ rfl (m) rfl 65 #[.int .i64 4, .int .i64 at_, .string ⟨#[]⟩, .int .i64 0, .string ⟨#[]⟩, .slice none 0 0, .string qn, .slice A ql.length c, .int .i64 0, .slice none 0 0, .string ⟨#[]⟩, .slice none 0 0, .string ⟨#[]⟩, .string ⟨#[]⟩, .bool false, .int .i64 0, .string ⟨#[]⟩, .slice none 0 0, .slice none 0 0, .slice none 0 0, .slice A9 acc.length c9] (0, 0) _ hyo Tryd.underlying65 (by kernel_rfl) (by kernel_rfl) ?_)
                  | (with_reducible refine wpList_store_row (o := ⟨none, .store 65 (.tmp 4) (.tmp 63), _, _, _, _⟩) rfl 65 _ _ rfl (W.heap.size) #[.int .i64 4, .int .i64 at_, .string ⟨#[]⟩, .int .i64 0, .string ⟨#[]⟩, .slice none 0 0, .string qn, .slice A ql.length c, .int .i64 0, .slice none 0 0, .string ⟨#[]⟩, .slice none 0 0, .string ⟨#[]⟩, .string ⟨#[]⟩, .bool false, .int .i64 0, .string ⟨#[]⟩, .slice none 0 0, .slice none 0 0, .slice none 0 0, .slice A9 acc.length c9] rfl rfl 65 #[.int .i64 0, .int .i64 0, .string ⟨#[]⟩, .int .i64 0, .string ⟨#[]⟩, .slice none 0 0, .string ⟨#[]⟩, .slice none 0 0, .int .i64 0, .slice none 0 0, .string ⟨#[]⟩, .slice none 0 0, .string ⟨#[]⟩, .string ⟨#[]⟩, .bool false, .int .i64 0, .string ⟨#[]⟩, .slice none 0 0, .slice none 0 0, .slice none 0 0, .slice none 0 0] (hxo) (by kernel_rfl) (by kernel_rfl) (by kernel_rfl) ?_))
                refine bodyPost_ret (results_cell_row rfl _ _ W.heap.size 65 #[.int .i64 4, .int .i64 at_, .string ⟨#[]⟩, .int .i64 0, .string ⟨#[]⟩, .slice none 0 0, .string qn, .slice A ql.length c, .int .i64 0, .slice none 0 0, .string ⟨#[]⟩, .slice none 0 0, .string ⟨#[]⟩, .string ⟨#[]⟩, .bool false, .int .i64 0, .string ⟨#[]⟩, .slice none 0 0, .slice none 0 0, .slice none 0 0, .slice A9 acc.length c9] (0, 0) _ rfl (setRow_heap _ _ _ _ _ _ hxo) Tryd.underlying65 rfl (by kernel_rfl)) rfl (HPUT _ ?_)
                exact hpt.row (Nat.le_refl _) (by omega) _
              · have HD := Lib.hid hw
                clear hw
                have HG_ := Lib.hid (World.grownBy.trans HG.out hg)
                have HR_ := Lib.hid hr
                have HX_ := Lib.hid (HX.out.kept hg (by omega))
                have HY_ := Lib.hid (HY.out.kept hg (by omega))
                have HA_ := Lib.hid (HA.out.kept hg (by omega))
                have HQ_ := Lib.hid (HQ.out.grown hg (fun k hk e => by injection e; have := hk.1; omega))
                have hzw_ := Nat.le_trans hzw hg.size
                clear hzw
                have hzw := hzw_
                clear hzw_
                clear hg hr HG HR HX HY HA HQ
                have HG := HG_
                have HR := HR_
                have HX := HX_
                have HY := HY_
                have HA := HA_
                have HQ := HQ_
                clear HG_ HR_ HX_ HY_ HA_ HQ_
                go_wp2_with fail
                have HGd := Lib.hid (grown_then HG.out (bel_drew (Below.refl w80.heap.size w80)) HG.out.size)
                have HRd := Lib.hid (HR.out.below (bel_drew (Below.refl w80.heap.size w80)) HR.out.lt)
                have HXd := Lib.hid (HX.out.drew)
                have HYd := Lib.hid (HY.out.drew)
                have HAd := Lib.hid (HA.out.bel (bel_drew (Below.refl w80.heap.size w80)))
                have HQd := Lib.hid (HQ.out.bel (bel_drew (Below.refl w80.heap.size w80)))
                have hm9 : m < w80.heap.size := blk_lt HY.out
                have hob : ∀ k, (Value.slice A9 acc.length c9).ownBlock = some k → z ≤ k ∧ k < w80.heap.size := fun k hk => by obtain ⟨xs, ho, h1⟩ := HA.out.owns; exact ⟨h1 k hk, blk_lt (row_lt ho k hk).2.choose_spec⟩
                have HOB := Lib.hid hob
                clear hob
                refine start_ (n := 9) (S := fun w' => w'.cell? ⟨m, 20, none⟩ = some (.slice A9 acc.length c9)) (ds := [8]) #[false, false, false, false, false, false, false, false, false] (by kernel_rfl) rfl rfl (blk_cell HYd.out 20) (fun hHeld => ?_)
                refine pure_ (i := 0) (N := some 55) (v := ?_) (a' := ?_) #[true, false, false, false, false, false, false, false, false] rfl rfl (by kernel_rfl) (fun _ _ _ h => h) (Or.inl ⟨by rfl, ?_⟩) ?_ ?_
                rotate_left
                · intro w'
                  go_simp
                  with_reducible rfl
                rotate_left
                · simp only [Act.put, List.setIfInBounds_toArray, List.set_cons_zero, List.set_cons_succ, i64_w, i32_w]
                  rfl
                refine pure_ (i := 2) (N := some 57) (v := ?_) (a' := ?_) #[true, false, true, false, false, false, false, false, false] rfl rfl (by kernel_rfl) (fun _ _ _ h => h) (Or.inl ⟨by rfl, ?_⟩) ?_ ?_
                rotate_left
                · intro w'
                  go_simp
                  with_reducible rfl
                rotate_left
                · simp only [Act.put, List.setIfInBounds_toArray, List.set_cons_zero, List.set_cons_succ, i64_w, i32_w]
                  rfl
                refine pure_ (i := 3) (N := some 58) (v := ?_) (a' := ?_) #[true, false, true, true, false, false, false, false, false] rfl rfl (by kernel_rfl) (fun _ _ _ h => h) (Or.inl ⟨by rfl, ?_⟩) ?_ ?_
                rotate_left
                · intro w'
                  go_simp
                  with_reducible rfl
                rotate_left
                · simp only [Act.put, List.setIfInBounds_toArray, List.set_cons_zero, List.set_cons_succ, i64_w, i32_w]
                  rfl
                refine take_ (i := 1) (N := some 56) (v := ?_) (a' := ?_) #[true, true, true, true, false, false, false, false, false] rfl rfl (by kernel_rfl) (fun _ _ _ h => h) (Or.inl ⟨by rfl, ?_⟩) hHeld ?_ ?_
                rotate_left
                · intro w' s0
                  go_simp
                  with_reducible rfl
                rotate_left
                · simp only [Act.put, List.setIfInBounds_toArray, List.set_cons_zero, List.set_cons_succ, i64_w, i32_w]
                  rfl
                refine one_ (i := 4) (N := some 59) #[true, true, true, true, true, false, false, false, false] rfl rfl (by kernel_rfl) (by decide) (fun K hK => ?_)
                refine goes2_ Tryd.func60 (by kernel_rfl) rfl #[.pointer (some ⟨R, 0, none⟩), .int .i64 d] (by rfl) rfl rfl (by simp only [List.map_toArray, List.map_cons, List.map_nil]; rfl) ?_
                refine (IA.out _ _ HRd.out).mono ?_
                rintro e w81 ⟨hg, ⟨a, us3, v, hp, rfl, hv, hr, hle⟩ | ⟨er, at9, hp, rfl⟩⟩
                rotate_left
                · refine .inr ⟨_, rfl, ?_⟩
                  go_wp2_with fail
                  exact ⟨rfl, World.grownBy.trans HGd.out hg, .inr ⟨er, at9, (by rw [HP.out]; exact arms_e (f := fun l => Stm.mk 4 at_ noB .zero ⟨qn, ql⟩ .zero .zero [] [] l) HD.out hp), rfl⟩⟩
                obtain ⟨vn, vb, vl, A7, c7, rfl, rfl, hl⟩ := hv.arm
                refine .inl ⟨_, rfl, ?_⟩
                have HG1 := Lib.hid (World.grownBy.trans HGd.out hg)
                have HR1 := Lib.hid hr
                have HX1 := Lib.hid (HXd.out.kept hg (by omega))
                have HY1 := Lib.hid (HYd.out.kept hg (by omega))
                have HA1 := Lib.hid (HAd.out.kept hg (by omega))
                have HQ1 := Lib.hid (HQd.out.grown hg (fun k hk e => by injection e; have := hk.1; omega))
                have HL2 := Lib.hid hl
                have HP9 := Lib.hid hp
                have HLE9 := Lib.hid ((Lt.arm (Le.block k) us' _ us3 hp).2)
                have hs81 : w80.heap.size ≤ w81.heap.size := hg.size
                clear hg hr hv hl hp hle
                refine hK.out _ _ (blk_cell HY1.out 20) (fun hHeld => ?_)
                clear hK K
                refine norm_ (a' := ?_) ?_ ?_
                rotate_left
                · show Act.put _ (some 59) _ = _
                  simp only [Act.put, List.setIfInBounds_toArray, List.set_cons_zero, List.set_cons_succ, i64_w, i32_w]
                  rfl
                refine one_ (i := 5) (N := some 60) #[true, true, true, true, true, true, false, false, false] rfl rfl (by kernel_rfl) (by decide) (fun K hK => ?_)
                refine value_ (w1 := ?_) (v := ?_) (by rfl) rfl ?_ ?_
                rotate_left 2
                · go_simp
                  constructor
                  · rfl
                  · rfl
                refine hK.out _ _ (blk_cell (HY1.out.alloc _) 20) (fun hHeld => ?_)
                clear hK K
                refine norm_ (a' := ?_) ?_ ?_
                rotate_left
                · show Act.put _ (some 60) _ = _
                  simp only [Act.put, List.setIfInBounds_toArray, List.set_cons_zero, List.set_cons_succ, i64_w, i32_w]
                  rfl
                refine one_ (i := 6) (N := some 61) #[true, true, true, true, true, true, true, false, false] rfl rfl (by kernel_rfl) (by decide) (fun K hK => ?_)
                refine Rd.append_step (W := w81) (ok := fun j => z ≤ j) (okp := fun j => w80.heap.size ≤ j) (cs := [.string vn, .string vb, .slice A7 vl.length c7]) (ds := Arm.d (.mk vn vb vl)) (l := Arm.ds acc) (by rfl) (.tmp 56) (.tmp 60) 63 (.agg #[.string ⟨#[]⟩, .string ⟨#[]⟩, .slice none 0 0]) 56 rfl Tryd.underlying63 info_Arm rfl (by decide) (by decide) rfl rfl HA1.out (by simp only [Arm.d]; exact ⟨.v _, .v _, HL2.out, trivial⟩) (by simp [Arm.d]) (fun k hk => by omega) (fun k hk => ⟨by omega, fun e => by have := HOB.out _ e; omega⟩) (by simp [Value.oneCell']) (by rw [Arm.ds_length]; omega) ?_
                intro u5 w82 h5 hg5 hat5
                obtain ⟨A10, c10, rfl⟩ : ∃ A c, u5 = .slice A (acc.length + 1) c := (by obtain ⟨A, c, h⟩ := h5.slice; exact ⟨A, c, by rw [h]; simp [Arm.ds_length]⟩)
                have HG2 := Lib.hid (grown_own HG1.out hg5 (fun k hk => by have := HOB.out _ hk; omega))
                have HR2 := Lib.hid (HR1.out.grown hg5 (fun k hk => by have := HOB.out _ hk; omega))
                have HX2 : Hid (Bx 65 w82 W.heap.size _) := Lib.hid ((hg5.block _ (blk_lt HX1.out) (fun e => by have := HOB.out _ e.symm; omega)).trans HX1.out)
                have HY2 : Hid (Bx 65 w82 m _) := Lib.hid ((hg5.block _ (blk_lt HY1.out) (fun e => by have := HOB.out _ e.symm; omega)).trans HY1.out)
                have HQ2 : Hid (Rd w82 (fun j => m + 1 ≤ j ∧ j < z) (.slice A ql.length c) (.row 140 1 (ql.map stepD))) := Lib.hid (HQ1.out.grown hg5 (fun k hk e => by have := HOB.out _ e; have := hk.2; omega))
                have HA2 := Lib.hid h5
                have hg82 : Hid (w80.heap.size ≤ w82.heap.size) := Lib.hid (Nat.le_trans hs81 hg5.size)
                clear h5 hg5 hat5
                refine hK.out _ _ (blk_cell HY2.out 20) (fun hHeld => ?_)
                clear hK K
                refine norm_ (a' := ?_) ?_ ?_
                rotate_left
                · show Act.put _ (some 61) _ = _
                  simp only [Act.put, List.setIfInBounds_toArray, List.set_cons_zero, List.set_cons_succ, i64_w, i32_w]
                  rfl
                refine pure_ (i := 7) (N := some 62) (v := ?_) (a' := ?_) #[true, true, true, true, true, true, true, true, false] rfl rfl (by kernel_rfl) (fun _ _ _ h => h) (Or.inl ⟨by rfl, ?_⟩) ?_ ?_
                rotate_left
                · intro w'
                  go_simp
                  with_reducible rfl
                rotate_left
                · simp only [Act.put, List.setIfInBounds_toArray, List.set_cons_zero, List.set_cons_succ, i64_w, i32_w]
                  rfl
                refine last_ (i := 8) (N := none) #[true, true, true, true, true, true, true, true, true] rfl rfl (by kernel_rfl) (by decide) (fun K hK => ?_)
                have hfz := blk_frozen HY2.out 20
                have hcz : w82.cell? ⟨m, 20, none⟩ = some (.slice A9 acc.length c9) := blk_cell HY2.out 20
                refine skip_ (w1 := ?_) (by rfl) rfl ?_ ?_
                rotate_left
                · go_simp
                  rfl
                refine hK.out _ _ ?_
                clear hK K
                refine done_ (by kernel_rfl) ?_
                clear hHeld hfz hcz
                have HG3 := Lib.hid (grown_set HG2.out (p := ⟨m, 20, none⟩) (by simp only; omega) (.slice A10 (acc.length + 1) c10))
                have HR3 := Lib.hid (HR2.out.far (p := ⟨m, 20, none⟩) (by simp only; omega) (.slice A10 (acc.length + 1) c10))
                have HX3 := Lib.hid (HX2.out.far (p := ⟨m, 20, none⟩) (by simp only; omega) (.slice A10 (acc.length + 1) c10))
                have HY3 : Hid (Bx 65 (w82.setCell ⟨m, 20, none⟩ (.slice A10 (acc.length + 1) c10)) m #[.int .i64 4, .int .i64 at_, .string ⟨#[]⟩, .int .i64 0, .string ⟨#[]⟩, .slice none 0 0, .string qn, .slice A ql.length c, .int .i64 0, .slice none 0 0, .string ⟨#[]⟩, .slice none 0 0, .string ⟨#[]⟩, .string ⟨#[]⟩, .bool false, .int .i64 0, .string ⟨#[]⟩, .slice none 0 0, .slice none 0 0, .slice none 0 0, .slice A10 (acc.length + 1) c10]) := Lib.hid (by have h := HY2.out.set 20 (.slice A10 (acc.length + 1) c10); simpa using h)
                have HA3 := Lib.hid (HA2.out.far (p := ⟨m, 20, none⟩) (fun k hk => by simp only; omega) (.slice A10 (acc.length + 1) c10))
                have HQ3 := Lib.hid (HQ2.out.far (p := ⟨m, 20, none⟩) (fun k hk => by have := hk.1; simp only; omega) (.slice A10 (acc.length + 1) c10))
                have HP3 : Hid (stmtP (blockP k) ts = ((armsP (blockP k) n).bd fun l => Ps.ret (Stm.mk 4 at_ noB .zero ⟨qn, ql⟩ .zero .zero [] [] ((acc ++ [Arm.mk vn vb vl]) ++ l))) us3) := Lib.hid (by rw [HP.out]; exact arms_t (f := fun l => Stm.mk 4 at_ noB .zero ⟨qn, ql⟩ .zero .zero [] [] l) HD.out HP9.out)
                have hzw3 : z ≤ (w82.setCell ⟨m, 20, none⟩ (.slice A10 (acc.length + 1) c10)).heap.size := by have := HG3.out.size; have := hg82.out; rw [World.size_setCell]; omega
                have hl6 : (acc ++ [Arm.mk vn vb vl]).length = acc.length + 1 := by simp
                have hle9 := HLE9.out
                clear HG HR HX HY HA HQ HGd HRd HXd HYd HAd HQd HG1 HR1 HX1 HY1 HA1 HQ1 HL2 HG2 HR2 HX2 HY2 HA2 HQ2 HP HP9 HD HLE9 hg82 HOB hs81
                go_wp2_with fail
                go_roundg (us3.length + 1)
                case measure => omega
                case rel => exact ⟨us3, acc ++ [Arm.mk vn vb vl], A10, c10, n, by omega, by omega, by rw [hl6]; omega, HR3, HG3, HX3, Lib.hid (by rw [hl6]; exact HY3.out), hzw3, Lib.hid (by rw [hl6, Arm.ds_snoc]; exact HA3.out), HQ3, HP3⟩
          · go_wp2_with fail
            exact ⟨rfl, World.grownBy.trans HG.out hg, .inr ⟨er, at_, (by rw [stmtP, ← HAT.out, stmtQ, optE_f HW1.out, optE_f HW6.out, optE_t HW9.out, Ps.bd_ok HP10.out]; exact Ps.bd_err hp), rfl⟩⟩
        · go_wp2_with fail
          exact ⟨rfl, World.grownBy.trans HG.out hg, .inr ⟨er, at_, (by rw [stmtP, ← HAT.out, stmtQ, optE_f HW1.out, optE_f HW6.out, optE_t HW9.out]; exact Ps.bd_err hp), rfl⟩⟩
      · skip
        have HW9 := Lib.hid hw
        clear hw
        have HG_ := Lib.hid (World.grownBy.trans HG.out hg)
        have HR_ := Lib.hid hr
        have HX_ := Lib.hid (HX.out.kept hg (by omega))
        have HY_ := Lib.hid (HY.out.kept hg (by omega))
        have HS_ := Lib.hid (HS.out.kept hg)
        clear hg hr HG HR HX HY HS
        have HG := HG_
        have HR := HR_
        have HX := HX_
        have HY := HY_
        have HS := HS_
        clear HG_ HR_ HX_ HY_ HS_
        go_wp2_with fail
        obtain ⟨w70, hm7, hgw7, hg7, hx7⟩ := HS.out
        have HGW := Lib.hid hgw7
        have HX7 := Lib.hid hx7
        have HM7 := Lib.hid hm7
        refine (simple_rd (W := w70) HR.out hg7 (by have := blk_lt hx7; have := hm7; omega) (Nat.le_of_eq hm7) at_ HY.out).mono ?_
        clear HS hm7 hgw7 hg7 hx7
        rintro e w19 ⟨hg, ⟨x, us, cs, hp, rfl, hbx, hrd, hr, hle⟩ | ⟨er, at9, hp, rfl⟩⟩
        · obtain ⟨kk, at2, n2, tk, tn, tl, pn, pl, rk, ops, rpn, rpl, rn, rv, b2, on2, om2, ol2, th2, el2, arms2, A1, c1, A2, c2, A3, c3, A4, c4, A5, c5, A6, c6, A7, c7, A8, c8, rfl, rfl, _⟩ := stm_open hrd
          have HRD := Lib.hid hrd
          have HY_ : Hid (Bx 65 w19 m #[.int .i64 kk, .int .i64 at2, .string n2, .int .i64 tk, .string tn, .slice A1 tl.length c1, .string pn, .slice A2 pl.length c2, .int .i64 rk, .slice A3 ops.length c3, .string rpn, .slice A4 rpl.length c4, .string rn, .string rv, .bool b2, .int .i64 on2, .string om2, .slice A5 ol2.length c5, .slice A6 th2.length c6, .slice A7 el2.length c7, .slice A8 arms2.length c8]) := Lib.hid hbx
          have HX_ := Lib.hid (HX7.out.kept hg (by omega))
          have HG_ := Lib.hid (World.grownBy.trans HGW.out hg)
          have HR_ := Lib.hid hr
          have HP12 := Lib.hid hp
          have HLE12 := Lib.hid hle
          clear hp hle hbx hrd hr hg HGW HX7 HM7 HG HR HX HY
          have HG := HG_
          have HR := HR_
          have HX := HX_
          have HY := HY_
          clear HG_ HR_ HX_ HY_
          go_wp2_with fail
          refine (must_rd HR.out ⟨#[59]⟩).mono ?_
          rintro e w20 ⟨hg, ⟨⟨⟩, us2, v, hp, rfl, rfl, hr, hle⟩ | ⟨er, at_, hp, rfl⟩⟩
          · skip
            have HP13 := Lib.hid hp
            have HLE13 := Lib.hid hle
            clear hp hle
            have HRD_ := Lib.hid (HRD.out.grown hg (fun k hk e => by injection e; omega))
            clear HRD
            have HRD := HRD_
            clear HRD_
            have HG_ := Lib.hid (World.grownBy.trans HG.out hg)
            have HR_ := Lib.hid hr
            have HX_ := Lib.hid (HX.out.kept hg (by omega))
            have HY_ := Lib.hid (HY.out.kept hg (by omega))
            clear hg hr HG HR HX HY
            have HG := HG_
            have HR := HR_
            have HX := HX_
            have HY := HY_
            clear HG_ HR_ HX_ HY_
            have HPF : Hid ((stmtP (blockP k)) ts = .ok (.mk kk at2 n2 (.mk tk tn tl) ⟨pn, pl⟩ ⟨rk, ops, ⟨rpn, rpl⟩, rn, rv⟩ ⟨b2, on2, ⟨om2, ol2⟩⟩ th2 el2 arms2, us2)) := Lib.hid (by rw [stmtP, ← HAT.out, stmtQ, optE_f HW1.out, optE_f HW6.out, optE_f HW9.out, Ps.bd_ok HP12.out, Ps.bd_ok HP13.out]; exact rfl)
            have HPUT : ∀ w', Put W.heap.size (m + 1) w20 w' → Does (stmtP (blockP k)) (Leads W Stm.d) W R ts (.returned (.agg #[.int .i64 kk, .int .i64 at2, .string n2, .int .i64 tk, .string tn, .slice A1 tl.length c1, .string pn, .slice A2 pl.length c2, .int .i64 rk, .slice A3 ops.length c3, .string rpn, .slice A4 rpl.length c4, .string rn, .string rv, .bool b2, .int .i64 on2, .string om2, .slice A5 ol2.length c5, .slice A6 th2.length c6, .slice A7 el2.length c7, .slice A8 arms2.length c8])) w' := fun w' hput => ⟨hput.grown HG.out (Nat.le_refl _), .inl ⟨.mk kk at2 n2 (.mk tk tn tl) ⟨pn, pl⟩ ⟨rk, ops, ⟨rpn, rpl⟩, rn, rv⟩ ⟨b2, on2, ⟨om2, ol2⟩⟩ th2 el2 arms2, us2, _, HPF.out, rfl, ⟨_, rfl, (HRD.out.step (fun k hk _ => hput.block k (.inr hk))).mono (fun k hk => by omega)⟩, HR.out.put hput hR, by have := HLE12.out; have := HLE13.out; first | omega | (simp at *; done) | (simp at *; omega)⟩⟩
            have hyo : w20.heap[m]? = some (.cells #[.int .i64 kk, .int .i64 at2, .string n2, .int .i64 tk, .string tn, .slice A1 tl.length c1, .string pn, .slice A2 pl.length c2, .int .i64 rk, .slice A3 ops.length c3, .string rpn, .slice A4 rpl.length c4, .string rn, .string rv, .bool b2, .int .i64 on2, .string om2, .slice A5 ol2.length c5, .slice A6 th2.length c6, .slice A7 el2.length c7, .slice A8 arms2.length c8] 65 (0, 0)) := HY.out
            have hxo : w20.heap[W.heap.size]? = some (.cells #[.int .i64 0, .int .i64 0, .string ⟨#[]⟩, .int .i64 0, .string ⟨#[]⟩, .slice none 0 0, .string ⟨#[]⟩, .slice none 0 0, .int .i64 0, .slice none 0 0, .string ⟨#[]⟩, .slice none 0 0, .string ⟨#[]⟩, .string ⟨#[]⟩, .bool false, .int .i64 0, .string ⟨#[]⟩, .slice none 0 0, .slice none 0 0, .slice none 0 0, .slice none 0 0] 65 (0, 0)) := HX.out
            have hpt : Put W.heap.size (m + 1) w20 w20 := (Put.refl W.heap.size (m + 1) w20)
            go_wp2_with (first
              | (with_reducible refine wpList_load_row (o := ⟨some 68, .load 65 (.tmp 5), _, _, _, _⟩) rfl 65 _ rfl (m) rfl 65 #[.int .i64 kk, .int .i64 at2, .string n2, .int .i64 tk, .string tn, .slice A1 tl.length c1, .string pn, .slice A2 pl.length c2, .int .i64 rk, .slice A3 ops.length c3, .string rpn, .slice A4 rpl.length c4, .string rn, .string rv, .bool b2, .int .i64 on2, .string om2, .slice A5 ol2.length c5, .slice A6 th2.length c6, .slice A7 el2.length c7, .slice A8 arms2.length c8] (0, 0) _ hyo Tryd.underlying65 (by kernel_rfl) (by kernel_rfl) ?_)
              | (with_reducible refine wpList_store_row (o := ⟨none, .store 65 (.tmp 4) (.tmp 68), _, _, _, _⟩) rfl 65 _ _ rfl (W.heap.size) #[.int .i64 kk, .int .i64 at2, .string n2, .int .i64 tk, .string tn, .slice A1 tl.length c1, .string pn, .slice A2 pl.length c2, .int .i64 rk, .slice A3 ops.length c3, .string rpn, .slice A4 rpl.length c4, .string rn, .string rv, .bool b2, .int .i64 on2, .string om2, .slice A5 ol2.length c5, .slice A6 th2.length c6, .slice A7 el2.length c7, .slice A8 arms2.length c8] rfl rfl 65 #[.int .i64 0, .int .i64 0, .string ⟨#[]⟩, .int .i64 0, .string ⟨#[]⟩, .slice none 0 0, .string ⟨#[]⟩, .slice none 0 0, .int .i64 0, .slice none 0 0, .string ⟨#[]⟩, .slice none 0 0, .string ⟨#[]⟩, .string ⟨#[]⟩, .bool false, .int .i64 0, .string ⟨#[]⟩, .slice none 0 0, .slice none 0 0, .slice none 0 0, .slice none 0 0] (hxo) (by kernel_rfl) (by kernel_rfl) (by kernel_rfl) ?_))
            refine bodyPost_ret (results_cell_row rfl _ _ W.heap.size 65 #[.int .i64 kk, .int .i64 at2, .string n2, .int .i64 tk, .string tn, .slice A1 tl.length c1, .string pn, .slice A2 pl.length c2, .int .i64 rk, .slice A3 ops.length c3, .string rpn, .slice A4 rpl.length c4, .string rn, .string rv, .bool b2, .int .i64 on2, .string om2, .slice A5 ol2.length c5, .slice A6 th2.length c6, .slice A7 el2.length c7, .slice A8 arms2.length c8] (0, 0) _ rfl (setRow_heap _ _ _ _ _ _ hxo) Tryd.underlying65 rfl (by kernel_rfl)) rfl (HPUT _ ?_)
            exact hpt.row (Nat.le_refl _) (by omega) _
          · go_wp2_with fail
            exact ⟨rfl, World.grownBy.trans HG.out hg, .inr ⟨er, at_, (by rw [stmtP, ← HAT.out, stmtQ, optE_f HW1.out, optE_f HW6.out, optE_f HW9.out, Ps.bd_ok HP12.out]; exact Ps.bd_err hp), rfl⟩⟩
        · go_wp2_with fail
          exact ⟨rfl, World.grownBy.trans HGW.out hg, .inr ⟨er, at9, (by rw [stmtP, ← HAT.out, stmtQ, optE_f HW1.out, optE_f HW6.out, optE_f HW9.out]; exact Ps.bd_err hp), rfl⟩⟩
end Go.Proofs.YtjoiflokekebkaaDoor
