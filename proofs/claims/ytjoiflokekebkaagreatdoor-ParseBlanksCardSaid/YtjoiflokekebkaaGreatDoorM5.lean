/- Texts of this claim in one file: R10, R11, R12. -/
import Derived.Test.YtjoiflokekebkaaGreatDoorM4
set_option linter.all false
section
/- Walks: what is set. -/
namespace Go.Proofs.YtjoiflokekebkaaGreatDoor
open Go.RowKit Go.Proofs.YtjoiflokekebkaaGreatDoorW.PrintLast

set_option maxRecDepth 100000 in
set_option maxHeartbeats 8000000 in
theorem set_rd {W : World} {R : Nat} {ts : List Tk} (h : Rdr W R ts) : Calls Tryz.prog 228 #[.pointer (some ⟨R, 0, none⟩)] W fun e W' => Does (setP) (Leads W Rvl.d) W R ts e W' := by
  have hR := h.lt
  have hlen := h.ok.len
  have HR := Lib.hid (h.below ((Below.refl (R + 1) W).alloc (by omega) (.cells #[.int .i64 0, .slice none 0 0, .string ⟨#[]⟩, .slice none 0 0, .string ⟨#[]⟩, .string ⟨#[]⟩] 57)) (by omega))
  have HG := Lib.hid (grown_alloc (World.grownBy.refl W (some R)) (.cells #[.int .i64 0, .slice none 0 0, .string ⟨#[]⟩, .slice none 0 0, .string ⟨#[]⟩, .string ⟨#[]⟩] 57))
  have HX := Lib.hid (.newAt rfl : Bx 57 (W.alloc (.cells #[.int .i64 0, .slice none 0 0, .string ⟨#[]⟩, .slice none 0 0, .string ⟨#[]⟩, .string ⟨#[]⟩] 57)) W.heap.size #[.int .i64 0, .slice none 0 0, .string ⟨#[]⟩, .slice none 0 0, .string ⟨#[]⟩, .string ⟨#[]⟩])
  clear h
  go_enter Tryz.func228, Tryz.ntmps228
  go_wp2_with fail
  generalize (W.alloc (.cells #[.int .i64 0, .slice none 0 0, .string ⟨#[]⟩, .slice none 0 0, .string ⟨#[]⟩, .string ⟨#[]⟩] 57)) = w1 at *
  refine (opt_rd HR.out ⟨#[38]⟩).mono ?_
  rintro e w2 ⟨hg, ⟨hw, rfl, hr⟩ | ⟨hw, rfl, hr⟩⟩
  · skip
    have HW1 := Lib.hid hw
    have HLT1 := Lib.hid (isW_pos hw)
    clear hw
    have HG_ := Lib.hid (World.grownBy.trans HG.out hg)
    have HR_ := Lib.hid hr
    have HX_ := Lib.hid (HX.out.kept hg (by omega))
    clear hg hr HG HR HX
    have HG := HG_
    have HR := HR_
    have HX := HX_
    clear HG_ HR_ HX_
    go_wp2_with fail
    refine (opt_rd HR.out ⟨#[109, 117, 116]⟩).mono ?_
    rintro e w3 ⟨hg, ⟨hw, rfl, hr⟩ | ⟨hw, rfl, hr⟩⟩
    · skip
      have HW2 := Lib.hid hw
      have HLT2 := Lib.hid (isW_pos hw)
      clear hw
      have HG_ := Lib.hid (World.grownBy.trans HG.out hg)
      have HR_ := Lib.hid hr
      have HX_ := Lib.hid (HX.out.kept hg (by omega))
      clear hg hr HG HR HX
      have HG := HG_
      have HR := HR_
      have HX := HX_
      clear HG_ HR_ HX_
      go_wp2_with fail
      refine (place_rd HR.out).mono ?_
      rintro e w4 ⟨hg, ⟨p, us2, v, hp, rfl, hv, hr, hle⟩ | ⟨er, at_, hp, rfl⟩⟩
      · skip
        obtain ⟨n', l', A, c, rfl, rfl, hl⟩ := hv.plc
        have hm3 := blk_lt HX.out
        have HL := Lib.hid (hl.low (m := W.heap.size + 1) (by omega))
        clear hl hv hm3
        have HP3 := Lib.hid hp
        have HLE3 := Lib.hid hle
        clear hp hle
        have HG_ := Lib.hid (World.grownBy.trans HG.out hg)
        have HR_ := Lib.hid hr
        have HX_ := Lib.hid (HX.out.kept hg (by omega))
        clear hg hr HG HR HX
        have HG := HG_
        have HR := HR_
        have HX := HX_
        clear HG_ HR_ HX_
        have HPF : Hid ((setP) ts = .ok (⟨7, [], ⟨n', l'⟩, noB, noB⟩, us2)) := Lib.hid (by rw [setP, optE_t HW1.out, optE_t HW2.out, Ps.bd_ok HP3.out]; exact rfl)
        have HPUT : ∀ w', Put W.heap.size (W.heap.size + 1) w4 w' → Does (setP) (Leads W Rvl.d) W R ts (.returned (.agg #[.int .i64 7, .slice none 0 0, .string n', .slice A l'.length c, .string ⟨#[]⟩, .string ⟨#[]⟩])) w' := fun w' hput => ⟨hput.grown HG.out (Nat.le_refl _), .inl ⟨⟨7, [], ⟨n', l'⟩, noB, noB⟩, us2, _, HPF.out, rfl, Leads.rv_mk (by exact Rd.nil _ _ _ _) ((HL.out.put hput (Nat.le_refl _)).low (by omega)), HR.out.put hput hR, by have := HLT1.out; have := HLT2.out; have := HLE3.out; first | omega | (simp at *; done) | (simp at *; omega)⟩⟩
        obtain ⟨lHX, cHX, fHX⟩ := HX.out.see
        go_wp2_with fail
        refine bodyPost_ret (v := .agg #[.int .i64 7, .slice none 0 0, .string n', .slice A l'.length c, .string ⟨#[]⟩, .string ⟨#[]⟩]) (by (simp only [results, Tryz.results228]); go_simp) rfl (HPUT _ ?_)
        repeat (first | with_reducible exact Put.refl _ _ _ | (with_reducible refine Put.set ?_ ?_ ?_ _; rotate_left; (simp only; omega); (simp only; omega)))
      · go_wp2_with fail
        exact ⟨rfl, World.grownBy.trans HG.out hg, .inr ⟨er, at_, (by rw [setP, optE_t HW1.out, optE_t HW2.out]; exact Ps.bd_err hp), rfl⟩⟩
    · skip
      have HW2 := Lib.hid hw
      clear hw
      have HG_ := Lib.hid (World.grownBy.trans HG.out hg)
      have HR_ := Lib.hid hr
      have HX_ := Lib.hid (HX.out.kept hg (by omega))
      clear hg hr HG HR HX
      have HG := HG_
      have HR := HR_
      have HX := HX_
      clear HG_ HR_ HX_
      go_wp2_with fail
      refine (place_rd HR.out).mono ?_
      rintro e w5 ⟨hg, ⟨p, us2, v, hp, rfl, hv, hr, hle⟩ | ⟨er, at_, hp, rfl⟩⟩
      · skip
        obtain ⟨n', l', A, c, rfl, rfl, hl⟩ := hv.plc
        have hm3 := blk_lt HX.out
        have HL := Lib.hid (hl.low (m := W.heap.size + 1) (by omega))
        clear hl hv hm3
        have HP4 := Lib.hid hp
        have HLE4 := Lib.hid hle
        clear hp hle
        have HG_ := Lib.hid (World.grownBy.trans HG.out hg)
        have HR_ := Lib.hid hr
        have HX_ := Lib.hid (HX.out.kept hg (by omega))
        clear hg hr HG HR HX
        have HG := HG_
        have HR := HR_
        have HX := HX_
        clear HG_ HR_ HX_
        have HPF : Hid ((setP) ts = .ok (⟨6, [], ⟨n', l'⟩, noB, noB⟩, us2)) := Lib.hid (by rw [setP, optE_t HW1.out, optE_f HW2.out, Ps.bd_ok HP4.out]; exact rfl)
        have HPUT : ∀ w', Put W.heap.size (W.heap.size + 1) w5 w' → Does (setP) (Leads W Rvl.d) W R ts (.returned (.agg #[.int .i64 6, .slice none 0 0, .string n', .slice A l'.length c, .string ⟨#[]⟩, .string ⟨#[]⟩])) w' := fun w' hput => ⟨hput.grown HG.out (Nat.le_refl _), .inl ⟨⟨6, [], ⟨n', l'⟩, noB, noB⟩, us2, _, HPF.out, rfl, Leads.rv_mk (by exact Rd.nil _ _ _ _) ((HL.out.put hput (Nat.le_refl _)).low (by omega)), HR.out.put hput hR, by have := HLT1.out; have := HLE4.out; first | omega | (simp at *; done) | (simp at *; omega)⟩⟩
        obtain ⟨lHX, cHX, fHX⟩ := HX.out.see
        go_wp2_with fail
        refine bodyPost_ret (v := .agg #[.int .i64 6, .slice none 0 0, .string n', .slice A l'.length c, .string ⟨#[]⟩, .string ⟨#[]⟩]) (by (simp only [results, Tryz.results228]); go_simp) rfl (HPUT _ ?_)
        repeat (first | with_reducible exact Put.refl _ _ _ | (with_reducible refine Put.set ?_ ?_ ?_ _; rotate_left; (simp only; omega); (simp only; omega)))
      · go_wp2_with fail
        exact ⟨rfl, World.grownBy.trans HG.out hg, .inr ⟨er, at_, (by rw [setP, optE_t HW1.out, optE_f HW2.out]; exact Ps.bd_err hp), rfl⟩⟩
  · skip
    have HW1 := Lib.hid hw
    clear hw
    have HG_ := Lib.hid (World.grownBy.trans HG.out hg)
    have HR_ := Lib.hid hr
    have HX_ := Lib.hid (HX.out.kept hg (by omega))
    clear hg hr HG HR HX
    have HG := HG_
    have HR := HR_
    have HX := HX_
    clear HG_ HR_ HX_
    go_wp2_with fail
    refine (opt_rd HR.out ⟨#[98, 111, 120]⟩).mono ?_
    rintro e w6 ⟨hg, ⟨hw, rfl, hr⟩ | ⟨hw, rfl, hr⟩⟩
    · skip
      have HW5 := Lib.hid hw
      have HLT5 := Lib.hid (isW_pos hw)
      clear hw
      have HG_ := Lib.hid (World.grownBy.trans HG.out hg)
      have HR_ := Lib.hid hr
      have HX_ := Lib.hid (HX.out.kept hg (by omega))
      clear hg hr HG HR HX
      have HG := HG_
      have HR := HR_
      have HX := HX_
      clear HG_ HR_ HX_
      go_wp2_with fail
      refine (oper_rd HR.out).mono ?_
      rintro e w7 ⟨hg, ⟨o, us2, v, hp, rfl, hv, hr, hle⟩ | ⟨er, at_, hp, rfl⟩⟩
      · skip
        obtain ⟨ob, on, om, ol, A, c, rfl, rfl, hl⟩ := hv.opr
        have hm3 := blk_lt HX.out
        have HL := Lib.hid (hl.low (m := W.heap.size + 1) (by omega))
        clear hl hv hm3
        have HP6 := Lib.hid hp
        have HLE6 := Lib.hid hle
        clear hp hle
        have HG_ := Lib.hid (World.grownBy.trans HG.out hg)
        have HR_ := Lib.hid hr
        have HX_ := Lib.hid (HX.out.kept hg (by omega))
        clear hg hr HG HR HX
        have HG := HG_
        have HR := HR_
        have HX := HX_
        clear HG_ HR_ HX_
        have HPF : Hid ((setP) ts = .ok (⟨8, [⟨ob, on, ⟨om, ol⟩⟩], ⟨noB, []⟩, noB, noB⟩, us2)) := Lib.hid (by rw [setP, optE_f HW1.out, optE_t HW5.out, Ps.bd_ok HP6.out]; exact rfl)
        have HPUT : ∀ w', Put W.heap.size (W.heap.size + 1) w7 w' → Does (setP) (Leads W Rvl.d) W R ts (.returned (.agg #[.int .i64 8, (.slice (some ⟨w7.heap.size, 0, none⟩) 1 1), .string ⟨#[]⟩, .slice none 0 0, .string ⟨#[]⟩, .string ⟨#[]⟩])) (w'.alloc (.cells #[.bool ob, .int .i64 on, .string om, .slice A ol.length c] 53)) := fun w' hput => by
          have hs9 : W.heap.size + 1 ≤ w7.heap.size := Nat.succ_le_of_lt (blk_lt HX.out)
          have hlit := Rd.lit (ok := fun j => W.heap.size + 1 ≤ j) w' (e := 53) (sz := 4) (cs := [.bool ob, .int .i64 on, .string om, .slice A ol.length c]) (ds := Opr.d ⟨ob, on, ⟨om, ol⟩⟩) (okp := fun j => W.heap.size + 1 ≤ j) ((opr_rds (b := ob) (n := on) (m := om) HL.out).step (fun k hk _ => hput.block k (.inr hk))) rfl (fun j hj => by have := hput.size; omega) (fun j hj => hj)
          rw [hput.size] at hlit
          exact ⟨grown_alloc (hput.grown HG.out (Nat.le_refl _)) _, .inl ⟨⟨8, [⟨ob, on, ⟨om, ol⟩⟩], ⟨noB, []⟩, noB, noB⟩, us2, _, HPF.out, rfl, Leads.rv_mk (hlit.low (by omega)) (by exact Rd.nil _ _ _ _), (HR.out.put hput hR).below (bel_one (HR.out.put hput hR).lt _) (by omega), by have := HLT5.out; have := HLE6.out; first | omega | (simp at *; done) | (simp at *; omega)⟩⟩
        obtain ⟨lHX, cHX, fHX⟩ := HX.out.see
        go_wp2_with fail
        refine bodyPost_ret (v := .agg #[.int .i64 8, (.slice (some ⟨w7.heap.size, 0, none⟩) 1 1), .string ⟨#[]⟩, .slice none 0 0, .string ⟨#[]⟩, .string ⟨#[]⟩]) (by (simp only [results, Tryz.results228]); go_simp) rfl (HPUT _ ?_)
        repeat (first | with_reducible exact Put.refl _ _ _ | (with_reducible refine Put.set ?_ ?_ ?_ _; rotate_left; (simp only; omega); (simp only; omega)))
      · go_wp2_with fail
        exact ⟨rfl, World.grownBy.trans HG.out hg, .inr ⟨er, at_, (by rw [setP, optE_f HW1.out, optE_t HW5.out]; exact Ps.bd_err hp), rfl⟩⟩
    · skip
      have HW5 := Lib.hid hw
      clear hw
      have HG_ := Lib.hid (World.grownBy.trans HG.out hg)
      have HR_ := Lib.hid hr
      have HX_ := Lib.hid (HX.out.kept hg (by omega))
      clear hg hr HG HR HX
      have HG := HG_
      have HR := HR_
      have HX := HX_
      clear HG_ HR_ HX_
      go_wp2_with fail
      refine (opt_rd HR.out ⟨#[119, 97, 105, 116]⟩).mono ?_
      rintro e w8 ⟨hg, ⟨hw, rfl, hr⟩ | ⟨hw, rfl, hr⟩⟩
      · skip
        have HW7 := Lib.hid hw
        have HLT7 := Lib.hid (isW_pos hw)
        clear hw
        have HG_ := Lib.hid (World.grownBy.trans HG.out hg)
        have HR_ := Lib.hid hr
        have HX_ := Lib.hid (HX.out.kept hg (by omega))
        clear hg hr HG HR HX
        have HG := HG_
        have HR := HR_
        have HX := HX_
        clear HG_ HR_ HX_
        go_wp2_with fail
        refine (oper_rd HR.out).mono ?_
        rintro e w9 ⟨hg, ⟨o, us2, v, hp, rfl, hv, hr, hle⟩ | ⟨er, at_, hp, rfl⟩⟩
        · skip
          obtain ⟨ob, on, om, ol, A, c, rfl, rfl, hl⟩ := hv.opr
          have hm3 := blk_lt HX.out
          have HL := Lib.hid (hl.low (m := W.heap.size + 1) (by omega))
          clear hl hv hm3
          have HP8 := Lib.hid hp
          have HLE8 := Lib.hid hle
          clear hp hle
          have HG_ := Lib.hid (World.grownBy.trans HG.out hg)
          have HR_ := Lib.hid hr
          have HX_ := Lib.hid (HX.out.kept hg (by omega))
          clear hg hr HG HR HX
          have HG := HG_
          have HR := HR_
          have HX := HX_
          clear HG_ HR_ HX_
          have HPF : Hid ((setP) ts = .ok (⟨15, [⟨ob, on, ⟨om, ol⟩⟩], ⟨noB, []⟩, noB, noB⟩, us2)) := Lib.hid (by rw [setP, optE_f HW1.out, optE_f HW5.out, optE_t HW7.out, Ps.bd_ok HP8.out]; exact rfl)
          have HPUT : ∀ w', Put W.heap.size (W.heap.size + 1) w9 w' → Does (setP) (Leads W Rvl.d) W R ts (.returned (.agg #[.int .i64 15, (.slice (some ⟨w9.heap.size, 0, none⟩) 1 1), .string ⟨#[]⟩, .slice none 0 0, .string ⟨#[]⟩, .string ⟨#[]⟩])) (w'.alloc (.cells #[.bool ob, .int .i64 on, .string om, .slice A ol.length c] 53)) := fun w' hput => by
            have hs9 : W.heap.size + 1 ≤ w9.heap.size := Nat.succ_le_of_lt (blk_lt HX.out)
            have hlit := Rd.lit (ok := fun j => W.heap.size + 1 ≤ j) w' (e := 53) (sz := 4) (cs := [.bool ob, .int .i64 on, .string om, .slice A ol.length c]) (ds := Opr.d ⟨ob, on, ⟨om, ol⟩⟩) (okp := fun j => W.heap.size + 1 ≤ j) ((opr_rds (b := ob) (n := on) (m := om) HL.out).step (fun k hk _ => hput.block k (.inr hk))) rfl (fun j hj => by have := hput.size; omega) (fun j hj => hj)
            rw [hput.size] at hlit
            exact ⟨grown_alloc (hput.grown HG.out (Nat.le_refl _)) _, .inl ⟨⟨15, [⟨ob, on, ⟨om, ol⟩⟩], ⟨noB, []⟩, noB, noB⟩, us2, _, HPF.out, rfl, Leads.rv_mk (hlit.low (by omega)) (by exact Rd.nil _ _ _ _), (HR.out.put hput hR).below (bel_one (HR.out.put hput hR).lt _) (by omega), by have := HLT7.out; have := HLE8.out; first | omega | (simp at *; done) | (simp at *; omega)⟩⟩
          obtain ⟨lHX, cHX, fHX⟩ := HX.out.see
          go_wp2_with fail
          refine bodyPost_ret (v := .agg #[.int .i64 15, (.slice (some ⟨w9.heap.size, 0, none⟩) 1 1), .string ⟨#[]⟩, .slice none 0 0, .string ⟨#[]⟩, .string ⟨#[]⟩]) (by (simp only [results, Tryz.results228]); go_simp) rfl (HPUT _ ?_)
          repeat (first | with_reducible exact Put.refl _ _ _ | (with_reducible refine Put.set ?_ ?_ ?_ _; rotate_left; (simp only; omega); (simp only; omega)))
        · go_wp2_with fail
          exact ⟨rfl, World.grownBy.trans HG.out hg, .inr ⟨er, at_, (by rw [setP, optE_f HW1.out, optE_f HW5.out, optE_t HW7.out]; exact Ps.bd_err hp), rfl⟩⟩
      · skip
        have HW7 := Lib.hid hw
        clear hw
        have HG_ := Lib.hid (World.grownBy.trans HG.out hg)
        have HR_ := Lib.hid hr
        have HX_ := Lib.hid (HX.out.kept hg (by omega))
        clear hg hr HG HR HX
        have HG := HG_
        have HR := HR_
        have HX := HX_
        clear HG_ HR_ HX_
        go_wp2_with fail
        refine (opt_rd HR.out ⟨#[117, 110, 98, 111, 120]⟩).mono ?_
        rintro e w10 ⟨hg, ⟨hw, rfl, hr⟩ | ⟨hw, rfl, hr⟩⟩
        · skip
          have HW9 := Lib.hid hw
          have HLT9 := Lib.hid (isW_pos hw)
          clear hw
          have HG_ := Lib.hid (World.grownBy.trans HG.out hg)
          have HR_ := Lib.hid hr
          have HX_ := Lib.hid (HX.out.kept hg (by omega))
          clear hg hr HG HR HX
          have HG := HG_
          have HR := HR_
          have HX := HX_
          clear HG_ HR_ HX_
          go_wp2_with fail
          refine (bare_rd HR.out).mono ?_
          rintro e w11 ⟨hg, ⟨p, us2, v, hp, rfl, hv, hr, hle⟩ | ⟨er, at_, hp, rfl⟩⟩
          · skip
            obtain ⟨n', l', A, c, rfl, rfl, hl⟩ := hv.plc
            have hm3 := blk_lt HX.out
            have HL := Lib.hid (hl.low (m := W.heap.size + 1) (by omega))
            clear hl hv hm3
            have HP10 := Lib.hid hp
            have HLE10 := Lib.hid hle
            clear hp hle
            have HG_ := Lib.hid (World.grownBy.trans HG.out hg)
            have HR_ := Lib.hid hr
            have HX_ := Lib.hid (HX.out.kept hg (by omega))
            clear hg hr HG HR HX
            have HG := HG_
            have HR := HR_
            have HX := HX_
            clear HG_ HR_ HX_
            have HPF : Hid ((setP) ts = .ok (⟨9, [], ⟨n', l'⟩, noB, noB⟩, us2)) := Lib.hid (by rw [setP, optE_f HW1.out, optE_f HW5.out, optE_f HW7.out, optE_t HW9.out, Ps.bd_ok HP10.out]; exact rfl)
            have HPUT : ∀ w', Put W.heap.size (W.heap.size + 1) w11 w' → Does (setP) (Leads W Rvl.d) W R ts (.returned (.agg #[.int .i64 9, .slice none 0 0, .string n', .slice A l'.length c, .string ⟨#[]⟩, .string ⟨#[]⟩])) w' := fun w' hput => ⟨hput.grown HG.out (Nat.le_refl _), .inl ⟨⟨9, [], ⟨n', l'⟩, noB, noB⟩, us2, _, HPF.out, rfl, Leads.rv_mk (by exact Rd.nil _ _ _ _) ((HL.out.put hput (Nat.le_refl _)).low (by omega)), HR.out.put hput hR, by have := HLT9.out; have := HLE10.out; first | omega | (simp at *; done) | (simp at *; omega)⟩⟩
            obtain ⟨lHX, cHX, fHX⟩ := HX.out.see
            go_wp2_with fail
            refine bodyPost_ret (v := .agg #[.int .i64 9, .slice none 0 0, .string n', .slice A l'.length c, .string ⟨#[]⟩, .string ⟨#[]⟩]) (by (simp only [results, Tryz.results228]); go_simp) rfl (HPUT _ ?_)
            repeat (first | with_reducible exact Put.refl _ _ _ | (with_reducible refine Put.set ?_ ?_ ?_ _; rotate_left; (simp only; omega); (simp only; omega)))
          · go_wp2_with fail
            exact ⟨rfl, World.grownBy.trans HG.out hg, .inr ⟨er, at_, (by rw [setP, optE_f HW1.out, optE_f HW5.out, optE_f HW7.out, optE_t HW9.out]; exact Ps.bd_err hp), rfl⟩⟩
        · skip
          have HW9 := Lib.hid hw
          clear hw
          have HG_ := Lib.hid (World.grownBy.trans HG.out hg)
          have HR_ := Lib.hid hr
          have HX_ := Lib.hid (HX.out.kept hg (by omega))
          clear hg hr HG HR HX
          have HG := HG_
          have HR := HR_
          have HX := HX_
          clear HG_ HR_ HX_
          go_wp2_with fail
          refine (opt_rd HR.out ⟨#[97, 119, 97, 105, 116]⟩).mono ?_
          rintro e w12 ⟨hg, ⟨hw, rfl, hr⟩ | ⟨hw, rfl, hr⟩⟩
          · skip
            have HW11 := Lib.hid hw
            have HLT11 := Lib.hid (isW_pos hw)
            clear hw
            have HG_ := Lib.hid (World.grownBy.trans HG.out hg)
            have HR_ := Lib.hid hr
            have HX_ := Lib.hid (HX.out.kept hg (by omega))
            clear hg hr HG HR HX
            have HG := HG_
            have HR := HR_
            have HX := HX_
            clear HG_ HR_ HX_
            go_wp2_with fail
            refine (bare_rd HR.out).mono ?_
            rintro e w13 ⟨hg, ⟨p, us2, v, hp, rfl, hv, hr, hle⟩ | ⟨er, at_, hp, rfl⟩⟩
            · skip
              obtain ⟨n', l', A, c, rfl, rfl, hl⟩ := hv.plc
              have hm3 := blk_lt HX.out
              have HL := Lib.hid (hl.low (m := W.heap.size + 1) (by omega))
              clear hl hv hm3
              have HP12 := Lib.hid hp
              have HLE12 := Lib.hid hle
              clear hp hle
              have HG_ := Lib.hid (World.grownBy.trans HG.out hg)
              have HR_ := Lib.hid hr
              have HX_ := Lib.hid (HX.out.kept hg (by omega))
              clear hg hr HG HR HX
              have HG := HG_
              have HR := HR_
              have HX := HX_
              clear HG_ HR_ HX_
              have HPF : Hid ((setP) ts = .ok (⟨13, [], ⟨n', l'⟩, noB, noB⟩, us2)) := Lib.hid (by rw [setP, optE_f HW1.out, optE_f HW5.out, optE_f HW7.out, optE_f HW9.out, optE_t HW11.out, Ps.bd_ok HP12.out]; exact rfl)
              have HPUT : ∀ w', Put W.heap.size (W.heap.size + 1) w13 w' → Does (setP) (Leads W Rvl.d) W R ts (.returned (.agg #[.int .i64 13, .slice none 0 0, .string n', .slice A l'.length c, .string ⟨#[]⟩, .string ⟨#[]⟩])) w' := fun w' hput => ⟨hput.grown HG.out (Nat.le_refl _), .inl ⟨⟨13, [], ⟨n', l'⟩, noB, noB⟩, us2, _, HPF.out, rfl, Leads.rv_mk (by exact Rd.nil _ _ _ _) ((HL.out.put hput (Nat.le_refl _)).low (by omega)), HR.out.put hput hR, by have := HLT11.out; have := HLE12.out; first | omega | (simp at *; done) | (simp at *; omega)⟩⟩
              obtain ⟨lHX, cHX, fHX⟩ := HX.out.see
              go_wp2_with fail
              refine bodyPost_ret (v := .agg #[.int .i64 13, .slice none 0 0, .string n', .slice A l'.length c, .string ⟨#[]⟩, .string ⟨#[]⟩]) (by (simp only [results, Tryz.results228]); go_simp) rfl (HPUT _ ?_)
              repeat (first | with_reducible exact Put.refl _ _ _ | (with_reducible refine Put.set ?_ ?_ ?_ _; rotate_left; (simp only; omega); (simp only; omega)))
            · go_wp2_with fail
              exact ⟨rfl, World.grownBy.trans HG.out hg, .inr ⟨er, at_, (by rw [setP, optE_f HW1.out, optE_f HW5.out, optE_f HW7.out, optE_f HW9.out, optE_t HW11.out]; exact Ps.bd_err hp), rfl⟩⟩
          · skip
            have HW11 := Lib.hid hw
            clear hw
            have HG_ := Lib.hid (World.grownBy.trans HG.out hg)
            have HR_ := Lib.hid hr
            have HX_ := Lib.hid (HX.out.kept hg (by omega))
            clear hg hr HG HR HX
            have HG := HG_
            have HR := HR_
            have HX := HX_
            clear HG_ HR_ HX_
            go_wp2_with fail
            refine (opt_rd HR.out ⟨#[112, 111, 108, 108]⟩).mono ?_
            rintro e w14 ⟨hg, ⟨hw, rfl, hr⟩ | ⟨hw, rfl, hr⟩⟩
            · skip
              have HW13 := Lib.hid hw
              have HLT13 := Lib.hid (isW_pos hw)
              clear hw
              have HG_ := Lib.hid (World.grownBy.trans HG.out hg)
              have HR_ := Lib.hid hr
              have HX_ := Lib.hid (HX.out.kept hg (by omega))
              clear hg hr HG HR HX
              have HG := HG_
              have HR := HR_
              have HX := HX_
              clear HG_ HR_ HX_
              go_wp2_with fail
              refine (bare_rd HR.out).mono ?_
              rintro e w15 ⟨hg, ⟨p, us2, v, hp, rfl, hv, hr, hle⟩ | ⟨er, at_, hp, rfl⟩⟩
              · skip
                obtain ⟨n', l', A, c, rfl, rfl, hl⟩ := hv.plc
                have hm3 := blk_lt HX.out
                have HL := Lib.hid (hl.low (m := W.heap.size + 1) (by omega))
                clear hl hv hm3
                have HP14 := Lib.hid hp
                have HLE14 := Lib.hid hle
                clear hp hle
                have HG_ := Lib.hid (World.grownBy.trans HG.out hg)
                have HR_ := Lib.hid hr
                have HX_ := Lib.hid (HX.out.kept hg (by omega))
                clear hg hr HG HR HX
                have HG := HG_
                have HR := HR_
                have HX := HX_
                clear HG_ HR_ HX_
                have HPF : Hid ((setP) ts = .ok (⟨14, [], ⟨n', l'⟩, noB, noB⟩, us2)) := Lib.hid (by rw [setP, optE_f HW1.out, optE_f HW5.out, optE_f HW7.out, optE_f HW9.out, optE_f HW11.out, optE_t HW13.out, Ps.bd_ok HP14.out]; exact rfl)
                have HPUT : ∀ w', Put W.heap.size (W.heap.size + 1) w15 w' → Does (setP) (Leads W Rvl.d) W R ts (.returned (.agg #[.int .i64 14, .slice none 0 0, .string n', .slice A l'.length c, .string ⟨#[]⟩, .string ⟨#[]⟩])) w' := fun w' hput => ⟨hput.grown HG.out (Nat.le_refl _), .inl ⟨⟨14, [], ⟨n', l'⟩, noB, noB⟩, us2, _, HPF.out, rfl, Leads.rv_mk (by exact Rd.nil _ _ _ _) ((HL.out.put hput (Nat.le_refl _)).low (by omega)), HR.out.put hput hR, by have := HLT13.out; have := HLE14.out; first | omega | (simp at *; done) | (simp at *; omega)⟩⟩
                obtain ⟨lHX, cHX, fHX⟩ := HX.out.see
                go_wp2_with fail
                refine bodyPost_ret (v := .agg #[.int .i64 14, .slice none 0 0, .string n', .slice A l'.length c, .string ⟨#[]⟩, .string ⟨#[]⟩]) (by (simp only [results, Tryz.results228]); go_simp) rfl (HPUT _ ?_)
                repeat (first | with_reducible exact Put.refl _ _ _ | (with_reducible refine Put.set ?_ ?_ ?_ _; rotate_left; (simp only; omega); (simp only; omega)))
              · go_wp2_with fail
                exact ⟨rfl, World.grownBy.trans HG.out hg, .inr ⟨er, at_, (by rw [setP, optE_f HW1.out, optE_f HW5.out, optE_f HW7.out, optE_f HW9.out, optE_f HW11.out, optE_t HW13.out]; exact Ps.bd_err hp), rfl⟩⟩
            · skip
              have HW13 := Lib.hid hw
              clear hw
              have HG_ := Lib.hid (World.grownBy.trans HG.out hg)
              have HR_ := Lib.hid hr
              have HX_ := Lib.hid (HX.out.kept hg (by omega))
              clear hg hr HG HR HX
              have HG := HG_
              have HR := HR_
              have HX := HX_
              clear HG_ HR_ HX_
              go_wp2_with fail
              refine (opt_rd HR.out ⟨#[115, 116, 97, 114, 116]⟩).mono ?_
              rintro e w16 ⟨hg, ⟨hw, rfl, hr⟩ | ⟨hw, rfl, hr⟩⟩
              · skip
                have HW15 := Lib.hid hw
                have HLT15 := Lib.hid (isW_pos hw)
                clear hw
                have HG_ := Lib.hid (World.grownBy.trans HG.out hg)
                have HR_ := Lib.hid hr
                have HX_ := Lib.hid (HX.out.kept hg (by omega))
                clear hg hr HG HR HX
                have HG := HG_
                have HR := HR_
                have HX := HX_
                clear HG_ HR_ HX_
                go_wp2_with fail
                refine (name_rd HR.out false).mono ?_
                rintro e w17 ⟨hg, ⟨n, us, v, hp, rfl, rfl, hr, hle⟩ | ⟨er, at_, hp, rfl⟩⟩
                · skip
                  have HP16 := Lib.hid hp
                  have HLE16 := Lib.hid hle
                  clear hp hle
                  have HG_ := Lib.hid (World.grownBy.trans HG.out hg)
                  have HR_ := Lib.hid hr
                  have HX_ := Lib.hid (HX.out.kept hg (by omega))
                  clear hg hr HG HR HX
                  have HG := HG_
                  have HR := HR_
                  have HX := HX_
                  clear HG_ HR_ HX_
                  have hlm : W.heap.size < w17.heap.size := blk_lt HX.out
                  have HG_ := Lib.hid (grown_alloc HG.out (.cells #[.int .i64 12, .slice none 0 0, .string ⟨#[]⟩, .slice none 0 0, .string n, .string ⟨#[]⟩] 57))
                  have HR_ := Lib.hid (HR.out.below (bel_one HR.out.lt (.cells #[.int .i64 12, .slice none 0 0, .string ⟨#[]⟩, .slice none 0 0, .string n, .string ⟨#[]⟩] 57)) (by omega))
                  have HX_ := Lib.hid (HX.out.alloc (.cells #[.int .i64 12, .slice none 0 0, .string ⟨#[]⟩, .slice none 0 0, .string n, .string ⟨#[]⟩] 57))
                  have HY_ : Hid (Bx 57 (w17.alloc (.cells #[.int .i64 12, .slice none 0 0, .string ⟨#[]⟩, .slice none 0 0, .string n, .string ⟨#[]⟩] 57)) w17.heap.size #[.int .i64 12, .slice none 0 0, .string ⟨#[]⟩, .slice none 0 0, .string n, .string ⟨#[]⟩]) := Lib.hid (.newAt rfl)
                  clear HG HR HX
                  have HG := HG_
                  have HR := HR_
                  have HX := HX_
                  clear HG_ HR_ HX_
                  have HY := HY_
                  clear HY_
                  go_wp2_with fail
                  generalize w17.alloc (.cells #[.int .i64 12, .slice none 0 0, .string ⟨#[]⟩, .slice none 0 0, .string n, .string ⟨#[]⟩] 57) = w18 at *
                  generalize w17.heap.size = m at *
                  refine (args_rd HR.out).mono ?_
                  rintro e w19 ⟨hg, ⟨l, us2, v, hp, rfl, hv, hr, hle⟩ | ⟨er, at_, hp, rfl⟩⟩
                  · skip
                    obtain ⟨A, c, rfl⟩ := hv.slice
                    have hm3 := blk_lt HY.out
                    have HL := Lib.hid (hv.low (m := m + 1) (by omega))
                    clear hv hm3
                    have HP17 := Lib.hid hp
                    have HLE17 := Lib.hid hle
                    clear hp hle
                    have HG_ := Lib.hid (World.grownBy.trans HG.out hg)
                    have HR_ := Lib.hid hr
                    have HX_ := Lib.hid (HX.out.kept hg (by omega))
                    have HY_ := Lib.hid (HY.out.kept hg (by omega))
                    clear hg hr HG HR HX HY
                    have HG := HG_
                    have HR := HR_
                    have HX := HX_
                    have HY := HY_
                    clear HG_ HR_ HX_ HY_
                    have HPF : Hid ((setP) ts = .ok (⟨12, l, ⟨noB, []⟩, n, noB⟩, us2)) := Lib.hid (by rw [setP, optE_f HW1.out, optE_f HW5.out, optE_f HW7.out, optE_f HW9.out, optE_f HW11.out, optE_f HW13.out, optE_t HW15.out, Ps.bd_ok HP16.out, Ps.bd_ok HP17.out]; exact rfl)
                    have HPUT : ∀ w', Put W.heap.size (m + 1) w19 w' → Does (setP) (Leads W Rvl.d) W R ts (.returned (.agg #[.int .i64 12, .slice A (l.map Opr.d).length c, .string ⟨#[]⟩, .slice none 0 0, .string n, .string ⟨#[]⟩])) w' := fun w' hput => ⟨hput.grown HG.out (Nat.le_refl _), .inl ⟨⟨12, l, ⟨noB, []⟩, n, noB⟩, us2, _, HPF.out, rfl, Leads.rv_mk ((HL.out.put hput (Nat.le_refl _)).low (by omega)) (by exact Rd.nil _ _ _ _), HR.out.put hput hR, by have := HLT15.out; have := HLE16.out; have := HLE17.out; first | omega | (simp at *; done) | (simp at *; omega)⟩⟩
                    obtain ⟨lHX, cHX, fHX⟩ := HX.out.see
                    obtain ⟨lHY, cHY, fHY⟩ := HY.out.see
                    have hne01 : (W.heap.size = m) = False := eq_false (by omega)
                    have hne10 : (m = W.heap.size) = False := eq_false (by omega)
                    go_wp2_with fail
                    refine bodyPost_ret (v := .agg #[.int .i64 12, .slice A (l.map Opr.d).length c, .string ⟨#[]⟩, .slice none 0 0, .string n, .string ⟨#[]⟩]) (by (simp only [results, Tryz.results228]); go_simp) rfl (HPUT _ ?_)
                    repeat (first | with_reducible exact Put.refl _ _ _ | (with_reducible refine Put.set ?_ ?_ ?_ _; rotate_left; (simp only; omega); (simp only; omega)))
                  · go_wp2_with fail
                    exact ⟨rfl, World.grownBy.trans HG.out hg, .inr ⟨er, at_, (by rw [setP, optE_f HW1.out, optE_f HW5.out, optE_f HW7.out, optE_f HW9.out, optE_f HW11.out, optE_f HW13.out, optE_t HW15.out, Ps.bd_ok HP16.out]; exact Ps.bd_err hp), rfl⟩⟩
                · go_wp2_with fail
                  exact ⟨rfl, World.grownBy.trans HG.out hg, .inr ⟨er, at_, (by rw [setP, optE_f HW1.out, optE_f HW5.out, optE_f HW7.out, optE_f HW9.out, optE_f HW11.out, optE_f HW13.out, optE_t HW15.out]; exact Ps.bd_err hp), rfl⟩⟩
              · skip
                have HW15 := Lib.hid hw
                clear hw
                have HG_ := Lib.hid (World.grownBy.trans HG.out hg)
                have HR_ := Lib.hid hr
                have HX_ := Lib.hid (HX.out.kept hg (by omega))
                clear hg hr HG HR HX
                have HG := HG_
                have HR := HR_
                have HX := HX_
                clear HG_ HR_ HX_
                go_wp2_with fail
                refine (named_rd HR.out true).mono ?_
                rintro e w20 ⟨rfl, hb⟩
                have HG_ := Lib.hid (grown_then HG.out hb HG.out.size)
                have HR_ := Lib.hid (HR.out.below hb HR.out.lt)
                have HX_ := Lib.hid (HX.out.below hb)
                clear hb HG HR HX
                have HG := HG_
                have HR := HR_
                have HX := HX_
                clear HG_ HR_ HX_
                cases hn : namedB true (hd (ts)) with
                | true =>
                  have HN := Lib.hid hn
                  clear hn
                  go_wp2_with fail
                  refine (made_rd HR.out).mono ?_
                  rintro e w21 ⟨hg, ⟨r, us2, v, hp, rfl, hv, hr, hle⟩ | ⟨er, at_, hp, rfl⟩⟩
                  · skip
                    obtain ⟨k, ops, pn, pl, n, vr, A, c, A2, c2, rfl, rfl, hl, hl2⟩ := hv.rv
                    have hm3 := blk_lt HX.out
                    have HL := Lib.hid (hl.low (m := W.heap.size + 1) (by omega))
                    have HL2 := Lib.hid (hl2.low (m := W.heap.size + 1) (by omega))
                    clear hl hl2 hv hm3
                    have HP18 := Lib.hid hp
                    have HLE18 := Lib.hid hle
                    clear hp hle
                    have HG_ := Lib.hid (World.grownBy.trans HG.out hg)
                    have HR_ := Lib.hid hr
                    have HX_ := Lib.hid (HX.out.kept hg (by omega))
                    clear hg hr HG HR HX
                    have HG := HG_
                    have HR := HR_
                    have HX := HX_
                    clear HG_ HR_ HX_
                    have HPF : Hid ((setP) ts = .ok (⟨k, ops, ⟨pn, pl⟩, n, vr⟩, us2)) := Lib.hid (by rw [setP, optE_f HW1.out, optE_f HW5.out, optE_f HW7.out, optE_f HW9.out, optE_f HW11.out, optE_f HW13.out, optE_f HW15.out, greatE_t HN.out]; exact HP18.out)
                    have HPUT : ∀ w', Put W.heap.size (W.heap.size + 1) w21 w' → Does (setP) (Leads W Rvl.d) W R ts (.returned (.agg #[.int .i64 k, .slice A ops.length c, .string pn, .slice A2 pl.length c2, .string n, .string vr])) w' := fun w' hput => ⟨hput.grown HG.out (Nat.le_refl _), .inl ⟨⟨k, ops, ⟨pn, pl⟩, n, vr⟩, us2, _, HPF.out, rfl, Leads.rv_mk ((HL.out.put hput (Nat.le_refl _)).low (by omega)) ((HL2.out.put hput (Nat.le_refl _)).low (by omega)), HR.out.put hput hR, by have := HLE18.out; first | omega | (simp at *; done) | (simp at *; omega)⟩⟩
                    obtain ⟨lHX, cHX, fHX⟩ := HX.out.see
                    go_wp2_with fail
                    refine bodyPost_ret (v := .agg #[.int .i64 k, .slice A ops.length c, .string pn, .slice A2 pl.length c2, .string n, .string vr]) (by (simp only [results, Tryz.results228]); go_simp) rfl (HPUT _ ?_)
                    repeat (first | with_reducible exact Put.refl _ _ _ | (with_reducible refine Put.set ?_ ?_ ?_ _; rotate_left; (simp only; omega); (simp only; omega)))
                  · go_wp2_with fail
                    exact ⟨rfl, World.grownBy.trans HG.out hg, .inr ⟨er, at_, (by rw [setP, optE_f HW1.out, optE_f HW5.out, optE_f HW7.out, optE_f HW9.out, optE_f HW11.out, optE_f HW13.out, optE_f HW15.out, greatE_t HN.out]; exact hp), rfl⟩⟩
                | false =>
                  have HN := Lib.hid hn
                  clear hn
                  go_wp2_with fail
                  refine (oper_rd HR.out).mono ?_
                  rintro e w22 ⟨hg, ⟨o, us2, v, hp, rfl, hv, hr, hle⟩ | ⟨er, at_, hp, rfl⟩⟩
                  · skip
                    obtain ⟨ob, on, om, ol, A, c, rfl, rfl, hl⟩ := hv.opr
                    have hm3 := blk_lt HX.out
                    have HL := Lib.hid (hl.low (m := W.heap.size + 1) (by omega))
                    clear hl hv hm3
                    have HP19 := Lib.hid hp
                    have HLE19 := Lib.hid hle
                    clear hp hle
                    have HG_ := Lib.hid (World.grownBy.trans HG.out hg)
                    have HR_ := Lib.hid hr
                    have HX_ := Lib.hid (HX.out.kept hg (by omega))
                    clear hg hr HG HR HX
                    have HG := HG_
                    have HR := HR_
                    have HX := HX_
                    clear HG_ HR_ HX_
                    have hs9 : W.heap.size + 1 ≤ w22.heap.size := Nat.succ_le_of_lt (blk_lt HX.out)
                    have HO : Hid (Rd ((w22.alloc (.cells #[.bool ob, .int .i64 on, .string om, .slice A ol.length c] 53)).alloc (.cells #[.int .i64 0, .slice (some ⟨w22.heap.size, 0, none⟩) 1 1, .string ⟨#[]⟩, .slice none 0 0, .string ⟨#[]⟩, .string ⟨#[]⟩] 57)) (fun j => W.heap.size + 1 ≤ j ∧ j ≠ w22.heap.size + 1) (.slice (some ⟨w22.heap.size, 0, none⟩) 1 1) (.row 53 4 [Opr.d ⟨ob, on, ⟨om, ol⟩⟩])) := Lib.hid (((Rd.lit (ok := fun j => W.heap.size + 1 ≤ j) w22 (e := 53) (sz := 4) (cs := [.bool ob, .int .i64 on, .string om, .slice A ol.length c]) (ds := Opr.d ⟨ob, on, ⟨om, ol⟩⟩) (okp := fun j => W.heap.size + 1 ≤ j) (opr_rds (b := ob) (n := on) (m := om) HL.out) rfl (fun j hj => by omega) (fun j hj => hj)).bound.bel ((Below.refl _ _).alloc (Nat.le_refl _) (.cells #[.int .i64 0, .slice (some ⟨w22.heap.size, 0, none⟩) 1 1, .string ⟨#[]⟩, .slice none 0 0, .string ⟨#[]⟩, .string ⟨#[]⟩] 57))).mono (fun k hk => ⟨hk.1, by have := hk.2; simp at this; omega⟩))
                    have HG_ := Lib.hid (grown_alloc (grown_alloc HG.out (.cells #[.bool ob, .int .i64 on, .string om, .slice A ol.length c] 53)) (.cells #[.int .i64 0, .slice (some ⟨w22.heap.size, 0, none⟩) 1 1, .string ⟨#[]⟩, .slice none 0 0, .string ⟨#[]⟩, .string ⟨#[]⟩] 57))
                    have HR_ := Lib.hid ((HR.out.below (bel_one HR.out.lt (.cells #[.bool ob, .int .i64 on, .string om, .slice A ol.length c] 53)) (by omega)).below (bel_one (HR.out.below (bel_one HR.out.lt (.cells #[.bool ob, .int .i64 on, .string om, .slice A ol.length c] 53)) (by omega)).lt (.cells #[.int .i64 0, .slice (some ⟨w22.heap.size, 0, none⟩) 1 1, .string ⟨#[]⟩, .slice none 0 0, .string ⟨#[]⟩, .string ⟨#[]⟩] 57)) (by omega))
                    have HX_ := Lib.hid ((HX.out.alloc (.cells #[.bool ob, .int .i64 on, .string om, .slice A ol.length c] 53)).alloc (.cells #[.int .i64 0, .slice (some ⟨w22.heap.size, 0, none⟩) 1 1, .string ⟨#[]⟩, .slice none 0 0, .string ⟨#[]⟩, .string ⟨#[]⟩] 57))
                    have HY : Hid (Bx 57 ((w22.alloc (.cells #[.bool ob, .int .i64 on, .string om, .slice A ol.length c] 53)).alloc (.cells #[.int .i64 0, .slice (some ⟨w22.heap.size, 0, none⟩) 1 1, .string ⟨#[]⟩, .slice none 0 0, .string ⟨#[]⟩, .string ⟨#[]⟩] 57)) (w22.heap.size + 1) #[.int .i64 0, .slice (some ⟨w22.heap.size, 0, none⟩) 1 1, .string ⟨#[]⟩, .slice none 0 0, .string ⟨#[]⟩, .string ⟨#[]⟩]) := Lib.hid (.newAt (by simp))
                    clear HL
                    clear HG HR HX
                    have HG := HG_
                    have HR := HR_
                    have HX := HX_
                    clear HG_ HR_ HX_
                    go_wp2_with fail
                    generalize ((w22.alloc (.cells #[.bool ob, .int .i64 on, .string om, .slice A ol.length c] 53)).alloc (.cells #[.int .i64 0, .slice (some ⟨w22.heap.size, 0, none⟩) 1 1, .string ⟨#[]⟩, .slice none 0 0, .string ⟨#[]⟩, .string ⟨#[]⟩] 57)) = w23 at *
                    obtain ⟨z, hz⟩ : ∃ z, z = w22.heap.size := ⟨_, rfl⟩
                    rw [← hz] at HO HY hs9 ⊢
                    clear hz
                    refine (sign_rd HR.out).mono ?_
                    rintro e w24 ⟨hg, ⟨k, hk5, hk0, hk1, rfl, hr⟩ | ⟨hk0, rfl, hr⟩⟩
                    · have HSG : Hid (∀ a, sgP a us2 = signE a (1 + k) us2.tail) := Lib.hid (fun a => sgP_t hk5 hk0 hk1)
                      have HLT9 := Lib.hid (isW_pos hk1)
                      clear hk0 hk1
                      have HG_ := Lib.hid (World.grownBy.trans HG.out hg)
                      have HR_ := Lib.hid hr
                      have HX_ := Lib.hid (HX.out.kept hg (by omega))
                      have HY_ := Lib.hid (HY.out.kept hg (by omega))
                      have HO_ := Lib.hid (HO.out.grown hg (fun k hk e => by injection e; have := hk.1; omega))
                      clear hg hr HG HR HX HY HO
                      have HG := HG_
                      have HR := HR_
                      have HX := HX_
                      have HY := HY_
                      have HO := HO_
                      clear HG_ HR_ HX_ HY_ HO_
                      obtain ⟨lHX, cHX, fHX⟩ := HX.out.see
                      obtain ⟨lHY, cHY, fHY⟩ := HY.out.see
                      have hne01 : (W.heap.size = z + 1) = False := eq_false (by omega)
                      have hne10 : (z + 1 = W.heap.size) = False := eq_false (by omega)
                      have HG_ := Lib.hid (grown_set HG.out (p := ⟨z + 1, 0, none⟩) (by simp only; omega) (.int .i64 (1 + k)))
                      have HR_ := Lib.hid (HR.out.far (p := ⟨z + 1, 0, none⟩) (by simp only; omega) (.int .i64 (1 + k)))
                      have HX_ := Lib.hid (HX.out.far (p := ⟨z + 1, 0, none⟩) (by simp only; omega) (.int .i64 (1 + k)))
                      have HY_ : Hid (Bx 57 (w24.setCell ⟨z + 1, 0, none⟩ (.int .i64 (1 + k))) (z + 1) #[.int .i64 (1 + k), .slice (some ⟨z, 0, none⟩) 1 1, .string ⟨#[]⟩, .slice none 0 0, .string ⟨#[]⟩, .string ⟨#[]⟩]) := Lib.hid (by have h := HY.out.set 0 (.int .i64 (1 + k)); simpa using h)
                      have HO_ := Lib.hid (HO.out.far (p := ⟨z + 1, 0, none⟩) (fun k hk => by have := hk.2; simp only; omega) (.int .i64 (1 + k)))
                      clear HG HR HX HY HO
                      have HG := HG_
                      have HR := HR_
                      have HX := HX_
                      have HY := HY_
                      have HO := HO_
                      clear HG_ HR_ HX_ HY_ HO_
                      go_wp2_with fail
                      clear lHX cHX fHX lHY cHY fHY hne01 hne10
                      generalize w24.setCell ⟨z + 1, 0, none⟩ (.int .i64 (1 + k)) = w90 at *
                      have HGd := Lib.hid (grown_then HG.out (bel_drew (Below.refl w90.heap.size w90)) HG.out.size)
                      have HRd := Lib.hid (HR.out.below (bel_drew (Below.refl w90.heap.size w90)) HR.out.lt)
                      have HXd := Lib.hid (HX.out.drew)
                      have HYd := Lib.hid (HY.out.drew)
                      have HOd := Lib.hid (HO.out.bel (bel_drew (Below.refl w90.heap.size w90)))
                      have hz9 : z + 1 < w90.heap.size := blk_lt HY.out
                      have hoz : ∀ k, (Value.slice (some ⟨z, 0, none⟩) 1 1).ownBlock = some k → k = z := fun k h => by cases h; rfl
                      refine start_ (n := 8) (S := fun w' => w'.cell? ⟨z + 1, 1, none⟩ = some (.slice (some ⟨z, 0, none⟩) 1 1)) (ds := [7]) #[false, false, false, false, false, false, false, false] (by kernel_rfl) rfl rfl (blk_cell HYd.out 1) (fun hHeld => ?_)
                      refine pure_ (i := 0) (N := some 77) (v := ?_) (a' := ?_) #[true, false, false, false, false, false, false, false] rfl rfl (by kernel_rfl) (fun _ _ _ h => h) (Or.inl ⟨by rfl, ?_⟩) ?_ ?_
                      rotate_left
                      · intro w'
                        go_simp
                        with_reducible rfl
                      rotate_left
                      · simp only [Act.put, List.setIfInBounds_toArray, List.set_cons_zero, List.set_cons_succ, i64_w, i32_w]
                        rfl
                      refine pure_ (i := 2) (N := some 79) (v := ?_) (a' := ?_) #[true, false, true, false, false, false, false, false] rfl rfl (by kernel_rfl) (fun _ _ _ h => h) (Or.inl ⟨by rfl, ?_⟩) ?_ ?_
                      rotate_left
                      · intro w'
                        go_simp
                        with_reducible rfl
                      rotate_left
                      · simp only [Act.put, List.setIfInBounds_toArray, List.set_cons_zero, List.set_cons_succ, i64_w, i32_w]
                        rfl
                      refine take_ (i := 1) (N := some 78) (v := ?_) (a' := ?_) #[true, true, true, false, false, false, false, false] rfl rfl (by kernel_rfl) (fun _ _ _ h => h) (Or.inl ⟨by rfl, ?_⟩) hHeld ?_ ?_
                      rotate_left
                      · intro w' s0
                        go_simp
                        with_reducible rfl
                      rotate_left
                      · simp only [Act.put, List.setIfInBounds_toArray, List.set_cons_zero, List.set_cons_succ, i64_w, i32_w]
                        rfl
                      refine one_ (i := 3) (N := some 80) #[true, true, true, true, false, false, false, false] rfl rfl (by kernel_rfl) (by decide) (fun K hK => ?_)
                      refine goes2_ Tryz.func215 (by kernel_rfl) rfl #[.pointer (some ⟨R, 0, none⟩)] (by rfl) rfl rfl (by simp only [List.map_toArray, List.map_cons, List.map_nil]; rfl) ?_
                      refine (oper_rd HRd.out).mono ?_
                      rintro e w91 ⟨hg, ⟨o2, us3, v, hp, rfl, hv, hr, hle⟩ | ⟨er, at_, hp, rfl⟩⟩
                      rotate_left
                      · refine .inr ⟨_, rfl, ?_⟩
                        go_wp2_with fail
                        exact ⟨rfl, World.grownBy.trans HGd.out hg, .inr ⟨er, at_, (by rw [setP, optE_f HW1.out, optE_f HW5.out, optE_f HW7.out, optE_f HW9.out, optE_f HW11.out, optE_f HW13.out, optE_f HW15.out, greatE_f HN.out, Ps.bd_ok HP19.out]; exact (HSG.out _).trans (Ps.bd_err hp)), rfl⟩⟩
                      obtain ⟨ob2, on2, om2, ol2, A2, c2, rfl, rfl, hl⟩ := hv.opr
                      refine .inl ⟨_, rfl, ?_⟩
                      have HG1 := Lib.hid (World.grownBy.trans HGd.out hg)
                      have HR1 := Lib.hid hr
                      have HX1 := Lib.hid (HXd.out.kept hg (by omega))
                      have HY1 := Lib.hid (HYd.out.kept hg (by omega))
                      have HO1 := Lib.hid (HOd.out.grown hg (fun k hk e => by injection e; have := hk.1; omega))
                      have HL2 := Lib.hid hl
                      have HP9 := Lib.hid hp
                      have HLE9 := Lib.hid hle
                      have hs91 : w90.heap.size ≤ w91.heap.size := hg.size
                      clear hg hr hv hl hp hle
                      refine hK.out _ _ (blk_cell HY1.out 1) (fun hHeld => ?_)
                      clear hK K
                      refine norm_ (a' := ?_) ?_ ?_
                      rotate_left
                      · show Act.put _ (some 80) _ = _
                        simp only [Act.put, List.setIfInBounds_toArray, List.set_cons_zero, List.set_cons_succ, i64_w, i32_w]
                        rfl
                      refine one_ (i := 4) (N := some 81) #[true, true, true, true, true, false, false, false] rfl rfl (by kernel_rfl) (by decide) (fun K hK => ?_)
                      refine value_ (w1 := ?_) (v := ?_) (by rfl) rfl ?_ ?_
                      rotate_left 2
                      · go_simp
                        constructor
                        · rfl
                        · rfl
                      refine hK.out _ _ (blk_cell (HY1.out.alloc _) 1) (fun hHeld => ?_)
                      clear hK K
                      refine norm_ (a' := ?_) ?_ ?_
                      rotate_left
                      · show Act.put _ (some 81) _ = _
                        simp only [Act.put, List.setIfInBounds_toArray, List.set_cons_zero, List.set_cons_succ, i64_w, i32_w]
                        rfl
                      refine one_ (i := 5) (N := some 82) #[true, true, true, true, true, true, false, false] rfl rfl (by kernel_rfl) (by decide) (fun K hK => ?_)
                      refine Rd.append_step (W := w91) (ok := fun j => W.heap.size + 1 ≤ j ∧ j ≠ z + 1) (okp := fun j => w90.heap.size ≤ j) (cs := [.bool ob2, .int .i64 on2, .string om2, .slice A2 ol2.length c2]) (ds := Opr.d ⟨ob2, on2, ⟨om2, ol2⟩⟩) (l := [Opr.d ⟨ob, on, ⟨om, ol⟩⟩]) (by rfl) (.tmp 78) (.tmp 81) 55 (.agg #[.bool false, .int .i64 0, .string ⟨#[]⟩, .slice none 0 0]) 56 rfl Tryz.underlying55 info_Oper rfl (by decide) (by decide) rfl rfl HO1.out (opr_rds (b := ob2) (n := on2) (m := om2) HL2.out) rfl (fun k hk => by omega) (fun k hk => ⟨by omega, fun e => by have := hoz _ e; omega⟩) (by simp [Value.oneCell']) (by simp) ?_
                      intro u5 w92 h5 hg5 hat5
                      obtain ⟨A5, c5, rfl⟩ : ∃ A c, u5 = .slice A 2 c := h5.slice
                      have HG2 := Lib.hid (grown_own HG1.out hg5 (fun k hk => by have := hoz _ hk; omega))
                      have HR2 := Lib.hid (HR1.out.grown hg5 (fun k hk => by have := hoz _ hk; omega))
                      have HX2 : Hid (Bx 57 w92 W.heap.size _) := Lib.hid ((hg5.block _ (blk_lt HX1.out) (fun e => by have := hoz _ e.symm; omega)).trans HX1.out)
                      have HY2 : Hid (Bx 57 w92 (z + 1) _) := Lib.hid ((hg5.block _ (blk_lt HY1.out) (fun e => by have := hoz _ e.symm; omega)).trans HY1.out)
                      have HO2 := Lib.hid h5
                      clear h5 hg5 hat5
                      refine hK.out _ _ (blk_cell HY2.out 1) (fun hHeld => ?_)
                      clear hK K
                      refine norm_ (a' := ?_) ?_ ?_
                      rotate_left
                      · show Act.put _ (some 82) _ = _
                        simp only [Act.put, List.setIfInBounds_toArray, List.set_cons_zero, List.set_cons_succ, i64_w, i32_w]
                        rfl
                      refine pure_ (i := 6) (N := some 83) (v := ?_) (a' := ?_) #[true, true, true, true, true, true, true, false] rfl rfl (by kernel_rfl) (fun _ _ _ h => h) (Or.inl ⟨by rfl, ?_⟩) ?_ ?_
                      rotate_left
                      · intro w'
                        go_simp
                        with_reducible rfl
                      rotate_left
                      · simp only [Act.put, List.setIfInBounds_toArray, List.set_cons_zero, List.set_cons_succ, i64_w, i32_w]
                        rfl
                      refine last_ (i := 7) (N := none) #[true, true, true, true, true, true, true, true] rfl rfl (by kernel_rfl) (by decide) (fun K hK => ?_)
                      have hfz := blk_frozen HY2.out 1
                      have hcz : w92.cell? ⟨z + 1, 1, none⟩ = some (.slice (some ⟨z, 0, none⟩) 1 1) := blk_cell HY2.out 1
                      refine skip_ (w1 := ?_) (by rfl) rfl ?_ ?_
                      rotate_left
                      · go_simp
                        rfl
                      refine hK.out _ _ ?_
                      clear hK K
                      refine done_ (by kernel_rfl) ?_
                      clear hHeld hfz hcz
                      have HG3 := Lib.hid (grown_set HG2.out (p := ⟨z + 1, 1, none⟩) (by simp only; omega) (.slice A5 2 c5))
                      have HR3 := Lib.hid (HR2.out.far (p := ⟨z + 1, 1, none⟩) (by simp only; omega) (.slice A5 2 c5))
                      have HX3 := Lib.hid (HX2.out.far (p := ⟨z + 1, 1, none⟩) (by simp only; omega) (.slice A5 2 c5))
                      have HY3 : Hid (Bx 57 (w92.setCell ⟨z + 1, 1, none⟩ (.slice A5 2 c5)) (z + 1) #[.int .i64 (1 + k), .slice A5 2 c5, .string ⟨#[]⟩, .slice none 0 0, .string ⟨#[]⟩, .string ⟨#[]⟩]) := Lib.hid (by have h := HY2.out.set 1 (.slice A5 2 c5); simpa using h)
                      have HO3 := Lib.hid (HO2.out.far (p := ⟨z + 1, 1, none⟩) (fun k hk => by have := hk.2; simp only; omega) (.slice A5 2 c5))
                      clear HG HR HX HY HO HGd HRd HXd HYd HOd HG1 HR1 HX1 HY1 HO1 HL2 HG2 HR2 HX2 HY2 HO2
                      have HG := HG3
                      have HR := HR3
                      have HX := HX3
                      have HY := HY3
                      have HO := HO3
                      clear HG3 HR3 HX3 HY3 HO3 hoz hz9 hs91 hk5
                      generalize (w92.setCell ⟨z + 1, 1, none⟩ (.slice A5 2 c5)) = w93 at *
                      have HPF : Hid ((setP) ts = .ok (⟨1 + k, [⟨ob, on, ⟨om, ol⟩⟩, ⟨ob2, on2, ⟨om2, ol2⟩⟩], ⟨noB, []⟩, noB, noB⟩, us3)) := Lib.hid (by rw [setP, optE_f HW1.out, optE_f HW5.out, optE_f HW7.out, optE_f HW9.out, optE_f HW11.out, optE_f HW13.out, optE_f HW15.out, greatE_f HN.out, Ps.bd_ok HP19.out]; exact (HSG.out _).trans (Ps.bd_ok HP9.out))
                      have HPUT : ∀ w', Put W.heap.size (W.heap.size + 1) w93 w' → Does (setP) (Leads W Rvl.d) W R ts (.returned (.agg #[.int .i64 (1 + k), .slice A5 2 c5, .string ⟨#[]⟩, .slice none 0 0, .string ⟨#[]⟩, .string ⟨#[]⟩])) w' := fun w' hput => ⟨hput.grown HG.out (Nat.le_refl _), .inl ⟨⟨1 + k, [⟨ob, on, ⟨om, ol⟩⟩, ⟨ob2, on2, ⟨om2, ol2⟩⟩], ⟨noB, []⟩, noB, noB⟩, us3, _, HPF.out, rfl, Leads.rv_mk ((HO.out.step (fun k hk _ => hput.block k (.inr hk.1))).mono (fun k hk => by have := hk.1; omega)) (by exact Rd.nil _ _ _ _), HR.out.put hput hR, by have := HLE19.out; have := HLT9.out; have := HLE9.out; first | omega | (simp at *; done) | (simp at *; omega)⟩⟩
                      obtain ⟨lHX, cHX, fHX⟩ := HX.out.see
                      obtain ⟨lHY, cHY, fHY⟩ := HY.out.see
                      have hne01 : (W.heap.size = z + 1) = False := eq_false (by omega)
                      have hne10 : (z + 1 = W.heap.size) = False := eq_false (by omega)
                      go_wp2_with fail
                      refine bodyPost_ret (v := .agg #[.int .i64 (1 + k), .slice A5 2 c5, .string ⟨#[]⟩, .slice none 0 0, .string ⟨#[]⟩, .string ⟨#[]⟩]) (by (simp only [results, Tryz.results228]); go_simp) rfl (HPUT _ ?_)
                      repeat (first | with_reducible exact Put.refl _ _ _ | (with_reducible refine Put.set ?_ ?_ ?_ _; rotate_left; (simp only; omega); (simp only; omega)))
                    · have HSG : Hid (∀ a, sgP a us2 = .ok (⟨0, [a], .zero, noB, noB⟩, us2)) := Lib.hid (fun a => sgP_f hk0)
                      clear hk0
                      have HG_ := Lib.hid (World.grownBy.trans HG.out hg)
                      have HR_ := Lib.hid hr
                      have HX_ := Lib.hid (HX.out.kept hg (by omega))
                      have HY_ := Lib.hid (HY.out.kept hg (by omega))
                      have HO_ := Lib.hid (HO.out.grown hg (fun k hk e => by injection e; have := hk.1; omega))
                      clear hg hr HG HR HX HY HO
                      have HG := HG_
                      have HR := HR_
                      have HX := HX_
                      have HY := HY_
                      have HO := HO_
                      clear HG_ HR_ HX_ HY_ HO_
                      have HPF : Hid ((setP) ts = .ok (⟨0, [⟨ob, on, ⟨om, ol⟩⟩], ⟨noB, []⟩, noB, noB⟩, us2)) := Lib.hid (by rw [setP, optE_f HW1.out, optE_f HW5.out, optE_f HW7.out, optE_f HW9.out, optE_f HW11.out, optE_f HW13.out, optE_f HW15.out, greatE_f HN.out, Ps.bd_ok HP19.out]; exact HSG.out _)
                      have HPUT : ∀ w', Put W.heap.size (W.heap.size + 1) w24 w' → Does (setP) (Leads W Rvl.d) W R ts (.returned (.agg #[.int .i64 0, .slice (some ⟨z, 0, none⟩) 1 1, .string ⟨#[]⟩, .slice none 0 0, .string ⟨#[]⟩, .string ⟨#[]⟩])) w' := fun w' hput => ⟨hput.grown HG.out (Nat.le_refl _), .inl ⟨⟨0, [⟨ob, on, ⟨om, ol⟩⟩], ⟨noB, []⟩, noB, noB⟩, us2, _, HPF.out, rfl, Leads.rv_mk ((HO.out.step (fun k hk _ => hput.block k (.inr hk.1))).mono (fun k hk => by have := hk.1; omega)) (by exact Rd.nil _ _ _ _), HR.out.put hput hR, by have := HLE19.out; first | omega | (simp at *; done) | (simp at *; omega)⟩⟩
                      obtain ⟨lHX, cHX, fHX⟩ := HX.out.see
                      obtain ⟨lHY, cHY, fHY⟩ := HY.out.see
                      have hne01 : (W.heap.size = z + 1) = False := eq_false (by omega)
                      have hne10 : (z + 1 = W.heap.size) = False := eq_false (by omega)
                      go_wp2_with fail
                      refine bodyPost_ret (v := .agg #[.int .i64 0, .slice (some ⟨z, 0, none⟩) 1 1, .string ⟨#[]⟩, .slice none 0 0, .string ⟨#[]⟩, .string ⟨#[]⟩]) (by (simp only [results, Tryz.results228]); go_simp) rfl (HPUT _ ?_)
                      repeat (first | with_reducible exact Put.refl _ _ _ | (with_reducible refine Put.set ?_ ?_ ?_ _; rotate_left; (simp only; omega); (simp only; omega)))
                  · go_wp2_with fail
                    exact ⟨rfl, World.grownBy.trans HG.out hg, .inr ⟨er, at_, (by rw [setP, optE_f HW1.out, optE_f HW5.out, optE_f HW7.out, optE_f HW9.out, optE_f HW11.out, optE_f HW13.out, optE_f HW15.out, greatE_f HN.out]; exact Ps.bd_err hp), rfl⟩⟩
end Go.Proofs.YtjoiflokekebkaaGreatDoor
end

section
/- Walks: a statement that has none in it. -/
namespace Go.Proofs.YtjoiflokekebkaaGreatDoor
open Go.RowKit

theorem stm_rds {w : World} {ok : Nat → Prop} {k at_ tk rk on : Int} {n tn pn rpn rn rv om : ByteArray} {b : Bool} {tl : List Ty} {pl rpl ol : List ByteArray} {ops : List Opr} {th el : List Stm} {arms : List Arm} {tu pu ou rpu olu thu elu au : Value} (h1 : Rd w ok tu (.row 37 3 (Ty.ds tl))) (h2 : Rd w ok pu (.row 104 1 (pl.map stepD))) (h3 : Rd w ok ou (.row 53 4 (ops.map Opr.d))) (h4 : Rd w ok rpu (.row 104 1 (rpl.map stepD))) (h5 : Rd w ok olu (.row 104 1 (ol.map stepD))) (h6 : Rd w ok thu (.row 60 21 (Stm.ds th))) (h7 : Rd w ok elu (.row 60 21 (Stm.ds el))) (h8 : Rd w ok au (.row 95 3 (Arm.ds arms))) :
    Rds w ok [.int .i64 k, .int .i64 at_, .string n, .int .i64 tk, .string tn, tu, .string pn, pu, .int .i64 rk, ou, .string rpn, rpu, .string rn, .string rv, .bool b, .int .i64 on, .string om, olu, thu, elu, au] (Stm.d (.mk k at_ n (.mk tk tn tl) ⟨pn, pl⟩ ⟨rk, ops, ⟨rpn, rpl⟩, rn, rv⟩ ⟨b, on, ⟨om, ol⟩⟩ th el arms)) := by
  simp only [Stm.d, Ty.d]
  exact ⟨.v _, .v _, .v _, .v _, .v _, h1, .v _, h2, .v _, h3, .v _, h4, .v _, .v _, .v _, .v _, .v _, h5, h6, h7, h8, trivial⟩

/-- What 'simple' does: the statement is laid in the box. -/
def Simple (at_ : Int) (W : World) (R B : Nat) (ts : List Tk) (e : Ending) (w' : World) : Prop :=
  W.grownBy w' (some R) ∧ ((∃ x us cs, simpleP at_ ts = .ok (x, us) ∧ e = .returned (.tuple #[]) ∧ Bx 60 w' B (List.toArray cs) ∧ Rds w' (fun j => B < j) cs (Stm.d x) ∧ Rdr w' R us ∧ us.length ≤ ts.length) ∨
    (∃ er at2, simpleP at_ ts = .error (er, at2) ∧ e = .panicked [{ v := .iface 115 (.agg #[.int .i64 er, .int .i64 at2]), recovered := false }]))
set_option maxRecDepth 100000 in
set_option maxHeartbeats 16000000 in
theorem simple_rd {W w0 : World} {R B : Nat} {ts : List Tk} (h : Rdr w0 R ts) (hg0 : W.grownBy w0 (some R)) (hR : R < W.heap.size) (hB : W.heap.size ≤ B) (at_ : Int) (hb : Bx 60 w0 B #[.int .i64 0, .int .i64 at_, .string ⟨#[]⟩, .int .i64 0, .string ⟨#[]⟩, .slice none 0 0, .string ⟨#[]⟩, .slice none 0 0, .int .i64 0, .slice none 0 0, .string ⟨#[]⟩, .slice none 0 0, .string ⟨#[]⟩, .string ⟨#[]⟩, .bool false, .int .i64 0, .string ⟨#[]⟩, .slice none 0 0, .slice none 0 0, .slice none 0 0, .slice none 0 0]) :
    Calls Tryz.prog 218 #[.pointer (some ⟨R, 0, none⟩), .pointer (some ⟨B, 0, none⟩)] w0 fun e w' => Simple at_ W R B ts e w' := by
  have HG := Lib.hid hg0
  have HR := Lib.hid h
  have HB := Lib.hid hb
  clear h hg0 hb
  go_enter Tryz.func218, Tryz.ntmps218
  go_wp2_with fail
  refine (opt_rd HR.out ⟨#[108, 101, 116]⟩).mono ?_
  rintro e w1 ⟨hg, ⟨hw, rfl, hr⟩ | ⟨hw, rfl, hr⟩⟩
  · skip
    have HW1 := Lib.hid hw
    have HLT1 := Lib.hid (isW_pos hw)
    clear hw
    have HG_ := Lib.hid (World.grownBy.trans HG.out hg)
    have HR_ := Lib.hid hr
    have HB_ := Lib.hid (HB.out.kept hg (by omega))
    clear hg hr HG HR HB
    have HG := HG_
    have HR := HR_
    have HB := HB_
    clear HG_ HR_ HB_
    go_wp2_with fail
    refine (name_rd HR.out false).mono ?_
    rintro e w2 ⟨hg, ⟨n, us, v, hp, rfl, rfl, hr, hle⟩ | ⟨er, at9, hp, rfl⟩⟩
    · skip
      have HP2 := Lib.hid hp
      have HLE2 := Lib.hid hle
      clear hp hle
      have HG_ := Lib.hid (World.grownBy.trans HG.out hg)
      have HR_ := Lib.hid hr
      have HB_ := Lib.hid (HB.out.kept hg (by omega))
      clear hg hr HG HR HB
      have HG := HG_
      have HR := HR_
      have HB := HB_
      clear HG_ HR_ HB_
      obtain ⟨lHB, cHB, fHB⟩ := HB.out.see
      have HPUT := Lib.hid (Put.set (Put.set (Put.refl W.heap.size (B + 1) w2) (p := ⟨B, 0, none⟩) (by simp only; omega) (by simp only; omega) (.int .i64 0)) (p := ⟨B, 2, none⟩) (by simp only; omega) (by simp only; omega) (.string n))
      have HG_ := Lib.hid (HPUT.out.grown HG.out (Nat.le_refl _))
      have HR_ := Lib.hid (HR.out.put HPUT.out hR)
      have HB_ : Hid (Bx 60 ((w2.setCell ⟨B, 0, none⟩ (.int .i64 0)).setCell ⟨B, 2, none⟩ (.string n)) B #[.int .i64 0, .int .i64 at_, .string n, .int .i64 0, .string ⟨#[]⟩, .slice none 0 0, .string ⟨#[]⟩, .slice none 0 0, .int .i64 0, .slice none 0 0, .string ⟨#[]⟩, .slice none 0 0, .string ⟨#[]⟩, .string ⟨#[]⟩, .bool false, .int .i64 0, .string ⟨#[]⟩, .slice none 0 0, .slice none 0 0, .slice none 0 0, .slice none 0 0]) := Lib.hid (by have h := ((HB.out.set 0 (.int .i64 0)).set 2 (.string n)); simpa using h)
      clear HPUT HG HR HB
      have HG := HG_
      have HR := HR_
      have HB := HB_
      clear HG_ HR_ HB_
      go_wp2_with fail
      clear lHB cHB fHB
      generalize ((w2.setCell ⟨B, 0, none⟩ (.int .i64 0)).setCell ⟨B, 2, none⟩ (.string n)) = w3 at *
      refine (must_rd HR.out ⟨#[58]⟩).mono ?_
      rintro e w4 ⟨hg, ⟨⟨⟩, us2, v, hp, rfl, rfl, hr, hle⟩ | ⟨er, at9, hp, rfl⟩⟩
      · skip
        have HP3 := Lib.hid hp
        have HLE3 := Lib.hid hle
        clear hp hle
        have HG_ := Lib.hid (World.grownBy.trans HG.out hg)
        have HR_ := Lib.hid hr
        have HB_ := Lib.hid (HB.out.kept hg (by omega))
        clear hg hr HG HR HB
        have HG := HG_
        have HR := HR_
        have HB := HB_
        clear HG_ HR_ HB_
        go_wp2_with fail
        refine (ty_rd 61 0 (by omega) (by omega) _ _ _ HR.out).mono ?_
        rintro e w5 ⟨hg, ⟨t, us3, v, hp, rfl, hv, hr, hle⟩ | ⟨er, at9, hp, rfl⟩⟩
        · skip
          obtain ⟨tk, tn, tl, A, c, rfl, rfl, hl⟩ := hv.ty
          have hm3 := blk_lt HB.out
          have HT := Lib.hid (hl.mono (ok' := fun j => B < j) (fun k hk => by omega))
          clear hm3
          clear hl hv
          have HP4 := Lib.hid hp
          have HLE4 := Lib.hid hle
          clear hp hle
          have HG_ := Lib.hid (World.grownBy.trans HG.out hg)
          have HR_ := Lib.hid hr
          have HB_ := Lib.hid (HB.out.kept hg (by omega))
          clear hg hr HG HR HB
          have HG := HG_
          have HR := HR_
          have HB := HB_
          clear HG_ HR_ HB_
          obtain ⟨lHB, cHB, fHB⟩ := HB.out.see
          have HPUT := Lib.hid (Put.set (Put.set (Put.set (Put.refl W.heap.size (B + 1) w5) (p := ⟨B, 3, none⟩) (by simp only; omega) (by simp only; omega) (.int .i64 tk)) (p := ⟨B, 4, none⟩) (by simp only; omega) (by simp only; omega) (.string tn)) (p := ⟨B, 5, none⟩) (by simp only; omega) (by simp only; omega) (.slice A tl.length c))
          have HG_ := Lib.hid (HPUT.out.grown HG.out (Nat.le_refl _))
          have HR_ := Lib.hid (HR.out.put HPUT.out hR)
          have HB_ : Hid (Bx 60 (((w5.setCell ⟨B, 3, none⟩ (.int .i64 tk)).setCell ⟨B, 4, none⟩ (.string tn)).setCell ⟨B, 5, none⟩ (.slice A tl.length c)) B #[.int .i64 0, .int .i64 at_, .string n, .int .i64 tk, .string tn, .slice A tl.length c, .string ⟨#[]⟩, .slice none 0 0, .int .i64 0, .slice none 0 0, .string ⟨#[]⟩, .slice none 0 0, .string ⟨#[]⟩, .string ⟨#[]⟩, .bool false, .int .i64 0, .string ⟨#[]⟩, .slice none 0 0, .slice none 0 0, .slice none 0 0, .slice none 0 0]) := Lib.hid (by have h := (((HB.out.set 3 (.int .i64 tk)).set 4 (.string tn)).set 5 (.slice A tl.length c)); simpa using h)
          have HT_ := Lib.hid (HT.out.step (fun k hk _ => HPUT.out.block k (.inr (by omega))))
          clear HPUT HG HR HB HT
          have HG := HG_
          have HR := HR_
          have HB := HB_
          have HT := HT_
          clear HG_ HR_ HB_ HT_
          go_wp2_with fail
          clear lHB cHB fHB
          generalize (((w5.setCell ⟨B, 3, none⟩ (.int .i64 tk)).setCell ⟨B, 4, none⟩ (.string tn)).setCell ⟨B, 5, none⟩ (.slice A tl.length c)) = w6 at *
          refine (must_rd HR.out ⟨#[61]⟩).mono ?_
          rintro e w7 ⟨hg, ⟨⟨⟩, us4, v, hp, rfl, rfl, hr, hle⟩ | ⟨er, at9, hp, rfl⟩⟩
          · skip
            have HP5 := Lib.hid hp
            have HLE5 := Lib.hid hle
            clear hp hle
            have HG_ := Lib.hid (World.grownBy.trans HG.out hg)
            have HR_ := Lib.hid hr
            have HB_ := Lib.hid (HB.out.kept hg (by omega))
            have HT_ := Lib.hid (HT.out.grown hg (fun k hk e => by injection e; omega))
            clear hg hr HG HR HB HT
            have HG := HG_
            have HR := HR_
            have HB := HB_
            have HT := HT_
            clear HG_ HR_ HB_ HT_
            go_wp2_with fail
            refine (set_rd HR.out).mono ?_
            rintro e w8 ⟨hg, ⟨r, us5, v, hp, rfl, hv, hr, hle⟩ | ⟨er, at9, hp, rfl⟩⟩
            · skip
              obtain ⟨rk, ops, pn, pl, rn, rv, A9, c9, A8, c8, rfl, rfl, hl, hl2⟩ := hv.rv
              have hm3 := blk_lt HB.out
              have HV1 := Lib.hid (hl.mono (ok' := fun j => B < j) (fun k hk => by omega))
              clear hm3
              have hm3 := blk_lt HB.out
              have HV2 := Lib.hid (hl2.mono (ok' := fun j => B < j) (fun k hk => by omega))
              clear hm3
              clear hl hl2 hv
              have HP6 := Lib.hid hp
              have HLE6 := Lib.hid hle
              clear hp hle
              have HG_ := Lib.hid (World.grownBy.trans HG.out hg)
              have HR_ := Lib.hid hr
              have HB_ := Lib.hid (HB.out.kept hg (by omega))
              have HT_ := Lib.hid (HT.out.grown hg (fun k hk e => by injection e; omega))
              clear hg hr HG HR HB HT
              have HG := HG_
              have HR := HR_
              have HB := HB_
              have HT := HT_
              clear HG_ HR_ HB_ HT_
              obtain ⟨lHB, cHB, fHB⟩ := HB.out.see
              have HPUT := Lib.hid (Put.set (Put.set (Put.set (Put.set (Put.set (Put.set (Put.refl W.heap.size (B + 1) w8) (p := ⟨B, 8, none⟩) (by simp only; omega) (by simp only; omega) (.int .i64 rk)) (p := ⟨B, 9, none⟩) (by simp only; omega) (by simp only; omega) (.slice A9 ops.length c9)) (p := ⟨B, 10, none⟩) (by simp only; omega) (by simp only; omega) (.string pn)) (p := ⟨B, 11, none⟩) (by simp only; omega) (by simp only; omega) (.slice A8 pl.length c8)) (p := ⟨B, 12, none⟩) (by simp only; omega) (by simp only; omega) (.string rn)) (p := ⟨B, 13, none⟩) (by simp only; omega) (by simp only; omega) (.string rv))
              have HG_ := Lib.hid (HPUT.out.grown HG.out (Nat.le_refl _))
              have HR_ := Lib.hid (HR.out.put HPUT.out hR)
              have HB_ : Hid (Bx 60 ((((((w8.setCell ⟨B, 8, none⟩ (.int .i64 rk)).setCell ⟨B, 9, none⟩ (.slice A9 ops.length c9)).setCell ⟨B, 10, none⟩ (.string pn)).setCell ⟨B, 11, none⟩ (.slice A8 pl.length c8)).setCell ⟨B, 12, none⟩ (.string rn)).setCell ⟨B, 13, none⟩ (.string rv)) B #[.int .i64 0, .int .i64 at_, .string n, .int .i64 tk, .string tn, .slice A tl.length c, .string ⟨#[]⟩, .slice none 0 0, .int .i64 rk, .slice A9 ops.length c9, .string pn, .slice A8 pl.length c8, .string rn, .string rv, .bool false, .int .i64 0, .string ⟨#[]⟩, .slice none 0 0, .slice none 0 0, .slice none 0 0, .slice none 0 0]) := Lib.hid (by have h := ((((((HB.out.set 8 (.int .i64 rk)).set 9 (.slice A9 ops.length c9)).set 10 (.string pn)).set 11 (.slice A8 pl.length c8)).set 12 (.string rn)).set 13 (.string rv)); simpa using h)
              have HT_ := Lib.hid (HT.out.step (fun k hk _ => HPUT.out.block k (.inr (by omega))))
              have HV1_ := Lib.hid (HV1.out.step (fun k hk _ => HPUT.out.block k (.inr (by omega))))
              have HV2_ := Lib.hid (HV2.out.step (fun k hk _ => HPUT.out.block k (.inr (by omega))))
              clear HPUT HG HR HB HT HV1 HV2
              have HG := HG_
              have HR := HR_
              have HB := HB_
              have HT := HT_
              have HV1 := HV1_
              have HV2 := HV2_
              clear HG_ HR_ HB_ HT_ HV1_ HV2_
              go_wp2_with fail
              clear lHB cHB fHB
              generalize ((((((w8.setCell ⟨B, 8, none⟩ (.int .i64 rk)).setCell ⟨B, 9, none⟩ (.slice A9 ops.length c9)).setCell ⟨B, 10, none⟩ (.string pn)).setCell ⟨B, 11, none⟩ (.slice A8 pl.length c8)).setCell ⟨B, 12, none⟩ (.string rn)).setCell ⟨B, 13, none⟩ (.string rv)) = w9 at *
              have HPF : Hid (simpleP at_ ts = .ok (.mk 0 at_ n (.mk tk tn tl) .zero ⟨rk, ops, ⟨pn, pl⟩, rn, rv⟩ .zero [] [] [], us5)) := Lib.hid (by rw [simpleP, optE_t HW1.out, Ps.bd_ok HP2.out, Ps.bd_ok HP3.out, Ps.bd_ok HP4.out, Ps.bd_ok HP5.out, Ps.bd_ok HP6.out]; exact rfl)
              go_end0
              exact ⟨HG.out, .inl ⟨.mk 0 at_ n (.mk tk tn tl) .zero ⟨rk, ops, ⟨pn, pl⟩, rn, rv⟩ .zero [] [] [], us5, [.int .i64 0, .int .i64 at_, .string n, .int .i64 tk, .string tn, .slice A tl.length c, .string ⟨#[]⟩, .slice none 0 0, .int .i64 rk, .slice A9 ops.length c9, .string pn, .slice A8 pl.length c8, .string rn, .string rv, .bool false, .int .i64 0, .string ⟨#[]⟩, .slice none 0 0, .slice none 0 0, .slice none 0 0, .slice none 0 0], HPF.out, rfl, HB.out, stm_rds HT.out (Rd.nil _ _ _ _) HV1.out HV2.out (Rd.nil _ _ _ _) (by simp only [Stm.ds]; exact (Rd.nil _ _ _ _)) (by simp only [Stm.ds]; exact (Rd.nil _ _ _ _)) (by simp only [Arm.ds]; exact (Rd.nil _ _ _ _)), HR.out, by have := HLT1.out; have := HLE2.out; have := HLE3.out; have := HLE4.out; have := HLE5.out; have := HLE6.out; first | omega | (simp at *; done) | (simp at *; omega)⟩⟩
            · go_wp2_with fail
              exact ⟨rfl, World.grownBy.trans HG.out hg, .inr ⟨er, at9, (by rw [simpleP, optE_t HW1.out, Ps.bd_ok HP2.out, Ps.bd_ok HP3.out, Ps.bd_ok HP4.out, Ps.bd_ok HP5.out]; exact Ps.bd_err hp), rfl⟩⟩
          · go_wp2_with fail
            exact ⟨rfl, World.grownBy.trans HG.out hg, .inr ⟨er, at9, (by rw [simpleP, optE_t HW1.out, Ps.bd_ok HP2.out, Ps.bd_ok HP3.out, Ps.bd_ok HP4.out]; exact Ps.bd_err hp), rfl⟩⟩
        · go_wp2_with fail
          exact ⟨rfl, World.grownBy.trans HG.out hg, .inr ⟨er, at9, (by rw [simpleP, optE_t HW1.out, Ps.bd_ok HP2.out, Ps.bd_ok HP3.out]; exact Ps.bd_err hp), rfl⟩⟩
      · go_wp2_with fail
        exact ⟨rfl, World.grownBy.trans HG.out hg, .inr ⟨er, at9, (by rw [simpleP, optE_t HW1.out, Ps.bd_ok HP2.out]; exact Ps.bd_err hp), rfl⟩⟩
    · go_wp2_with fail
      exact ⟨rfl, World.grownBy.trans HG.out hg, .inr ⟨er, at9, (by rw [simpleP, optE_t HW1.out]; exact Ps.bd_err hp), rfl⟩⟩
  · skip
    have HW1 := Lib.hid hw
    clear hw
    have HG_ := Lib.hid (World.grownBy.trans HG.out hg)
    have HR_ := Lib.hid hr
    have HB_ := Lib.hid (HB.out.kept hg (by omega))
    clear hg hr HG HR HB
    have HG := HG_
    have HR := HR_
    have HB := HB_
    clear HG_ HR_ HB_
    go_wp2_with fail
    refine (opt_rd HR.out ⟨#[121, 105, 101, 108, 100]⟩).mono ?_
    rintro e w10 ⟨hg, ⟨hw, rfl, hr⟩ | ⟨hw, rfl, hr⟩⟩
    · skip
      have HW7 := Lib.hid hw
      have HLT7 := Lib.hid (isW_pos hw)
      clear hw
      have HG_ := Lib.hid (World.grownBy.trans HG.out hg)
      have HR_ := Lib.hid hr
      have HB_ := Lib.hid (HB.out.kept hg (by omega))
      clear hg hr HG HR HB
      have HG := HG_
      have HR := HR_
      have HB := HB_
      clear HG_ HR_ HB_
      go_wp2_with fail
      refine (oper_rd HR.out).mono ?_
      rintro e w11 ⟨hg, ⟨o, us2, v, hp, rfl, hv, hr, hle⟩ | ⟨er, at9, hp, rfl⟩⟩
      · skip
        obtain ⟨ob, on, om, ol, A, c, rfl, rfl, hl⟩ := hv.opr
        have hm3 := blk_lt HB.out
        have HO := Lib.hid (hl.mono (ok' := fun j => B < j) (fun k hk => by omega))
        clear hm3
        clear hl hv
        have HP8 := Lib.hid hp
        have HLE8 := Lib.hid hle
        clear hp hle
        have HG_ := Lib.hid (World.grownBy.trans HG.out hg)
        have HR_ := Lib.hid hr
        have HB_ := Lib.hid (HB.out.kept hg (by omega))
        clear hg hr HG HR HB
        have HG := HG_
        have HR := HR_
        have HB := HB_
        clear HG_ HR_ HB_
        obtain ⟨lHB, cHB, fHB⟩ := HB.out.see
        have HPUT := Lib.hid (Put.set (Put.set (Put.set (Put.set (Put.set (Put.refl W.heap.size (B + 1) w11) (p := ⟨B, 0, none⟩) (by simp only; omega) (by simp only; omega) (.int .i64 5)) (p := ⟨B, 14, none⟩) (by simp only; omega) (by simp only; omega) (.bool ob)) (p := ⟨B, 15, none⟩) (by simp only; omega) (by simp only; omega) (.int .i64 on)) (p := ⟨B, 16, none⟩) (by simp only; omega) (by simp only; omega) (.string om)) (p := ⟨B, 17, none⟩) (by simp only; omega) (by simp only; omega) (.slice A ol.length c))
        have HG_ := Lib.hid (HPUT.out.grown HG.out (Nat.le_refl _))
        have HR_ := Lib.hid (HR.out.put HPUT.out hR)
        have HB_ : Hid (Bx 60 (((((w11.setCell ⟨B, 0, none⟩ (.int .i64 5)).setCell ⟨B, 14, none⟩ (.bool ob)).setCell ⟨B, 15, none⟩ (.int .i64 on)).setCell ⟨B, 16, none⟩ (.string om)).setCell ⟨B, 17, none⟩ (.slice A ol.length c)) B #[.int .i64 5, .int .i64 at_, .string ⟨#[]⟩, .int .i64 0, .string ⟨#[]⟩, .slice none 0 0, .string ⟨#[]⟩, .slice none 0 0, .int .i64 0, .slice none 0 0, .string ⟨#[]⟩, .slice none 0 0, .string ⟨#[]⟩, .string ⟨#[]⟩, .bool ob, .int .i64 on, .string om, .slice A ol.length c, .slice none 0 0, .slice none 0 0, .slice none 0 0]) := Lib.hid (by have h := (((((HB.out.set 0 (.int .i64 5)).set 14 (.bool ob)).set 15 (.int .i64 on)).set 16 (.string om)).set 17 (.slice A ol.length c)); simpa using h)
        have HO_ := Lib.hid (HO.out.step (fun k hk _ => HPUT.out.block k (.inr (by omega))))
        clear HPUT HG HR HB HO
        have HG := HG_
        have HR := HR_
        have HB := HB_
        have HO := HO_
        clear HG_ HR_ HB_ HO_
        go_wp2_with fail
        clear lHB cHB fHB
        generalize (((((w11.setCell ⟨B, 0, none⟩ (.int .i64 5)).setCell ⟨B, 14, none⟩ (.bool ob)).setCell ⟨B, 15, none⟩ (.int .i64 on)).setCell ⟨B, 16, none⟩ (.string om)).setCell ⟨B, 17, none⟩ (.slice A ol.length c)) = w12 at *
        have HPF : Hid (simpleP at_ ts = .ok (.mk 5 at_ noB .zero .zero .zero ⟨ob, on, ⟨om, ol⟩⟩ [] [] [], us2)) := Lib.hid (by rw [simpleP, optE_f HW1.out, optE_t HW7.out, Ps.bd_ok HP8.out]; exact rfl)
        go_end0
        exact ⟨HG.out, .inl ⟨.mk 5 at_ noB .zero .zero .zero ⟨ob, on, ⟨om, ol⟩⟩ [] [] [], us2, [.int .i64 5, .int .i64 at_, .string ⟨#[]⟩, .int .i64 0, .string ⟨#[]⟩, .slice none 0 0, .string ⟨#[]⟩, .slice none 0 0, .int .i64 0, .slice none 0 0, .string ⟨#[]⟩, .slice none 0 0, .string ⟨#[]⟩, .string ⟨#[]⟩, .bool ob, .int .i64 on, .string om, .slice A ol.length c, .slice none 0 0, .slice none 0 0, .slice none 0 0], HPF.out, rfl, HB.out, stm_rds (by simp only [Ty.ds]; exact (Rd.nil _ _ _ _)) (Rd.nil _ _ _ _) (Rd.nil _ _ _ _) (Rd.nil _ _ _ _) HO.out (by simp only [Stm.ds]; exact (Rd.nil _ _ _ _)) (by simp only [Stm.ds]; exact (Rd.nil _ _ _ _)) (by simp only [Arm.ds]; exact (Rd.nil _ _ _ _)), HR.out, by have := HLT7.out; have := HLE8.out; first | omega | (simp at *; done) | (simp at *; omega)⟩⟩
      · go_wp2_with fail
        exact ⟨rfl, World.grownBy.trans HG.out hg, .inr ⟨er, at9, (by rw [simpleP, optE_f HW1.out, optE_t HW7.out]; exact Ps.bd_err hp), rfl⟩⟩
    · skip
      have HW7 := Lib.hid hw
      clear hw
      have HG_ := Lib.hid (World.grownBy.trans HG.out hg)
      have HR_ := Lib.hid hr
      have HB_ := Lib.hid (HB.out.kept hg (by omega))
      clear hg hr HG HR HB
      have HG := HG_
      have HR := HR_
      have HB := HB_
      clear HG_ HR_ HB_
      go_wp2_with fail
      refine (opt_rd HR.out ⟨#[114, 101, 116, 117, 114, 110]⟩).mono ?_
      rintro e w13 ⟨hg, ⟨hw, rfl, hr⟩ | ⟨hw, rfl, hr⟩⟩
      · skip
        have HW9 := Lib.hid hw
        have HLT9 := Lib.hid (isW_pos hw)
        clear hw
        have HG_ := Lib.hid (World.grownBy.trans HG.out hg)
        have HR_ := Lib.hid hr
        have HB_ := Lib.hid (HB.out.kept hg (by omega))
        clear hg hr HG HR HB
        have HG := HG_
        have HR := HR_
        have HB := HB_
        clear HG_ HR_ HB_
        go_wp2_with fail
        refine (oper_rd HR.out).mono ?_
        rintro e w14 ⟨hg, ⟨o, us2, v, hp, rfl, hv, hr, hle⟩ | ⟨er, at9, hp, rfl⟩⟩
        · skip
          obtain ⟨ob, on, om, ol, A, c, rfl, rfl, hl⟩ := hv.opr
          have hm3 := blk_lt HB.out
          have HO := Lib.hid (hl.mono (ok' := fun j => B < j) (fun k hk => by omega))
          clear hm3
          clear hl hv
          have HP10 := Lib.hid hp
          have HLE10 := Lib.hid hle
          clear hp hle
          have HG_ := Lib.hid (World.grownBy.trans HG.out hg)
          have HR_ := Lib.hid hr
          have HB_ := Lib.hid (HB.out.kept hg (by omega))
          clear hg hr HG HR HB
          have HG := HG_
          have HR := HR_
          have HB := HB_
          clear HG_ HR_ HB_
          obtain ⟨lHB, cHB, fHB⟩ := HB.out.see
          have HPUT := Lib.hid (Put.set (Put.set (Put.set (Put.set (Put.set (Put.refl W.heap.size (B + 1) w14) (p := ⟨B, 0, none⟩) (by simp only; omega) (by simp only; omega) (.int .i64 6)) (p := ⟨B, 14, none⟩) (by simp only; omega) (by simp only; omega) (.bool ob)) (p := ⟨B, 15, none⟩) (by simp only; omega) (by simp only; omega) (.int .i64 on)) (p := ⟨B, 16, none⟩) (by simp only; omega) (by simp only; omega) (.string om)) (p := ⟨B, 17, none⟩) (by simp only; omega) (by simp only; omega) (.slice A ol.length c))
          have HG_ := Lib.hid (HPUT.out.grown HG.out (Nat.le_refl _))
          have HR_ := Lib.hid (HR.out.put HPUT.out hR)
          have HB_ : Hid (Bx 60 (((((w14.setCell ⟨B, 0, none⟩ (.int .i64 6)).setCell ⟨B, 14, none⟩ (.bool ob)).setCell ⟨B, 15, none⟩ (.int .i64 on)).setCell ⟨B, 16, none⟩ (.string om)).setCell ⟨B, 17, none⟩ (.slice A ol.length c)) B #[.int .i64 6, .int .i64 at_, .string ⟨#[]⟩, .int .i64 0, .string ⟨#[]⟩, .slice none 0 0, .string ⟨#[]⟩, .slice none 0 0, .int .i64 0, .slice none 0 0, .string ⟨#[]⟩, .slice none 0 0, .string ⟨#[]⟩, .string ⟨#[]⟩, .bool ob, .int .i64 on, .string om, .slice A ol.length c, .slice none 0 0, .slice none 0 0, .slice none 0 0]) := Lib.hid (by have h := (((((HB.out.set 0 (.int .i64 6)).set 14 (.bool ob)).set 15 (.int .i64 on)).set 16 (.string om)).set 17 (.slice A ol.length c)); simpa using h)
          have HO_ := Lib.hid (HO.out.step (fun k hk _ => HPUT.out.block k (.inr (by omega))))
          clear HPUT HG HR HB HO
          have HG := HG_
          have HR := HR_
          have HB := HB_
          have HO := HO_
          clear HG_ HR_ HB_ HO_
          go_wp2_with fail
          clear lHB cHB fHB
          generalize (((((w14.setCell ⟨B, 0, none⟩ (.int .i64 6)).setCell ⟨B, 14, none⟩ (.bool ob)).setCell ⟨B, 15, none⟩ (.int .i64 on)).setCell ⟨B, 16, none⟩ (.string om)).setCell ⟨B, 17, none⟩ (.slice A ol.length c)) = w15 at *
          have HPF : Hid (simpleP at_ ts = .ok (.mk 6 at_ noB .zero .zero .zero ⟨ob, on, ⟨om, ol⟩⟩ [] [] [], us2)) := Lib.hid (by rw [simpleP, optE_f HW1.out, optE_f HW7.out, optE_t HW9.out, Ps.bd_ok HP10.out]; exact rfl)
          go_end0
          exact ⟨HG.out, .inl ⟨.mk 6 at_ noB .zero .zero .zero ⟨ob, on, ⟨om, ol⟩⟩ [] [] [], us2, [.int .i64 6, .int .i64 at_, .string ⟨#[]⟩, .int .i64 0, .string ⟨#[]⟩, .slice none 0 0, .string ⟨#[]⟩, .slice none 0 0, .int .i64 0, .slice none 0 0, .string ⟨#[]⟩, .slice none 0 0, .string ⟨#[]⟩, .string ⟨#[]⟩, .bool ob, .int .i64 on, .string om, .slice A ol.length c, .slice none 0 0, .slice none 0 0, .slice none 0 0], HPF.out, rfl, HB.out, stm_rds (by simp only [Ty.ds]; exact (Rd.nil _ _ _ _)) (Rd.nil _ _ _ _) (Rd.nil _ _ _ _) (Rd.nil _ _ _ _) HO.out (by simp only [Stm.ds]; exact (Rd.nil _ _ _ _)) (by simp only [Stm.ds]; exact (Rd.nil _ _ _ _)) (by simp only [Arm.ds]; exact (Rd.nil _ _ _ _)), HR.out, by have := HLT9.out; have := HLE10.out; first | omega | (simp at *; done) | (simp at *; omega)⟩⟩
        · go_wp2_with fail
          exact ⟨rfl, World.grownBy.trans HG.out hg, .inr ⟨er, at9, (by rw [simpleP, optE_f HW1.out, optE_f HW7.out, optE_t HW9.out]; exact Ps.bd_err hp), rfl⟩⟩
      · skip
        have HW9 := Lib.hid hw
        clear hw
        have HG_ := Lib.hid (World.grownBy.trans HG.out hg)
        have HR_ := Lib.hid hr
        have HB_ := Lib.hid (HB.out.kept hg (by omega))
        clear hg hr HG HR HB
        have HG := HG_
        have HR := HR_
        have HB := HB_
        clear HG_ HR_ HB_
        go_wp2_with fail
        refine (opt_rd HR.out ⟨#[112, 114, 105, 110, 116]⟩).mono ?_
        rintro e w16 ⟨hg, ⟨hw, rfl, hr⟩ | ⟨hw, rfl, hr⟩⟩
        · skip
          have HW11 := Lib.hid hw
          have HLT11 := Lib.hid (isW_pos hw)
          clear hw
          have HG_ := Lib.hid (World.grownBy.trans HG.out hg)
          have HR_ := Lib.hid hr
          have HB_ := Lib.hid (HB.out.kept hg (by omega))
          clear hg hr HG HR HB
          have HG := HG_
          have HR := HR_
          have HB := HB_
          clear HG_ HR_ HB_
          go_wp2_with fail
          refine (oper_rd HR.out).mono ?_
          rintro e w17 ⟨hg, ⟨o, us2, v, hp, rfl, hv, hr, hle⟩ | ⟨er, at9, hp, rfl⟩⟩
          · skip
            obtain ⟨ob, on, om, ol, A, c, rfl, rfl, hl⟩ := hv.opr
            have hm3 := blk_lt HB.out
            have HO := Lib.hid (hl.mono (ok' := fun j => B < j) (fun k hk => by omega))
            clear hm3
            clear hl hv
            have HP12 := Lib.hid hp
            have HLE12 := Lib.hid hle
            clear hp hle
            have HG_ := Lib.hid (World.grownBy.trans HG.out hg)
            have HR_ := Lib.hid hr
            have HB_ := Lib.hid (HB.out.kept hg (by omega))
            clear hg hr HG HR HB
            have HG := HG_
            have HR := HR_
            have HB := HB_
            clear HG_ HR_ HB_
            obtain ⟨lHB, cHB, fHB⟩ := HB.out.see
            have HPUT := Lib.hid (Put.set (Put.set (Put.set (Put.set (Put.set (Put.refl W.heap.size (B + 1) w17) (p := ⟨B, 0, none⟩) (by simp only; omega) (by simp only; omega) (.int .i64 7)) (p := ⟨B, 14, none⟩) (by simp only; omega) (by simp only; omega) (.bool ob)) (p := ⟨B, 15, none⟩) (by simp only; omega) (by simp only; omega) (.int .i64 on)) (p := ⟨B, 16, none⟩) (by simp only; omega) (by simp only; omega) (.string om)) (p := ⟨B, 17, none⟩) (by simp only; omega) (by simp only; omega) (.slice A ol.length c))
            have HG_ := Lib.hid (HPUT.out.grown HG.out (Nat.le_refl _))
            have HR_ := Lib.hid (HR.out.put HPUT.out hR)
            have HB_ : Hid (Bx 60 (((((w17.setCell ⟨B, 0, none⟩ (.int .i64 7)).setCell ⟨B, 14, none⟩ (.bool ob)).setCell ⟨B, 15, none⟩ (.int .i64 on)).setCell ⟨B, 16, none⟩ (.string om)).setCell ⟨B, 17, none⟩ (.slice A ol.length c)) B #[.int .i64 7, .int .i64 at_, .string ⟨#[]⟩, .int .i64 0, .string ⟨#[]⟩, .slice none 0 0, .string ⟨#[]⟩, .slice none 0 0, .int .i64 0, .slice none 0 0, .string ⟨#[]⟩, .slice none 0 0, .string ⟨#[]⟩, .string ⟨#[]⟩, .bool ob, .int .i64 on, .string om, .slice A ol.length c, .slice none 0 0, .slice none 0 0, .slice none 0 0]) := Lib.hid (by have h := (((((HB.out.set 0 (.int .i64 7)).set 14 (.bool ob)).set 15 (.int .i64 on)).set 16 (.string om)).set 17 (.slice A ol.length c)); simpa using h)
            have HO_ := Lib.hid (HO.out.step (fun k hk _ => HPUT.out.block k (.inr (by omega))))
            clear HPUT HG HR HB HO
            have HG := HG_
            have HR := HR_
            have HB := HB_
            have HO := HO_
            clear HG_ HR_ HB_ HO_
            go_wp2_with fail
            clear lHB cHB fHB
            generalize (((((w17.setCell ⟨B, 0, none⟩ (.int .i64 7)).setCell ⟨B, 14, none⟩ (.bool ob)).setCell ⟨B, 15, none⟩ (.int .i64 on)).setCell ⟨B, 16, none⟩ (.string om)).setCell ⟨B, 17, none⟩ (.slice A ol.length c)) = w18 at *
            have HPF : Hid (simpleP at_ ts = .ok (.mk 7 at_ noB .zero .zero .zero ⟨ob, on, ⟨om, ol⟩⟩ [] [] [], us2)) := Lib.hid (by rw [simpleP, optE_f HW1.out, optE_f HW7.out, optE_f HW9.out, optE_t HW11.out, Ps.bd_ok HP12.out]; exact rfl)
            go_end0
            exact ⟨HG.out, .inl ⟨.mk 7 at_ noB .zero .zero .zero ⟨ob, on, ⟨om, ol⟩⟩ [] [] [], us2, [.int .i64 7, .int .i64 at_, .string ⟨#[]⟩, .int .i64 0, .string ⟨#[]⟩, .slice none 0 0, .string ⟨#[]⟩, .slice none 0 0, .int .i64 0, .slice none 0 0, .string ⟨#[]⟩, .slice none 0 0, .string ⟨#[]⟩, .string ⟨#[]⟩, .bool ob, .int .i64 on, .string om, .slice A ol.length c, .slice none 0 0, .slice none 0 0, .slice none 0 0], HPF.out, rfl, HB.out, stm_rds (by simp only [Ty.ds]; exact (Rd.nil _ _ _ _)) (Rd.nil _ _ _ _) (Rd.nil _ _ _ _) (Rd.nil _ _ _ _) HO.out (by simp only [Stm.ds]; exact (Rd.nil _ _ _ _)) (by simp only [Stm.ds]; exact (Rd.nil _ _ _ _)) (by simp only [Arm.ds]; exact (Rd.nil _ _ _ _)), HR.out, by have := HLT11.out; have := HLE12.out; first | omega | (simp at *; done) | (simp at *; omega)⟩⟩
          · go_wp2_with fail
            exact ⟨rfl, World.grownBy.trans HG.out hg, .inr ⟨er, at9, (by rw [simpleP, optE_f HW1.out, optE_f HW7.out, optE_f HW9.out, optE_t HW11.out]; exact Ps.bd_err hp), rfl⟩⟩
        · skip
          have HW11 := Lib.hid hw
          clear hw
          have HG_ := Lib.hid (World.grownBy.trans HG.out hg)
          have HR_ := Lib.hid hr
          have HB_ := Lib.hid (HB.out.kept hg (by omega))
          clear hg hr HG HR HB
          have HG := HG_
          have HR := HR_
          have HB := HB_
          clear HG_ HR_ HB_
          go_wp2_with fail
          refine (opt_rd HR.out ⟨#[100, 114, 111, 112]⟩).mono ?_
          rintro e w19 ⟨hg, ⟨hw, rfl, hr⟩ | ⟨hw, rfl, hr⟩⟩
          · skip
            have HW13 := Lib.hid hw
            have HLT13 := Lib.hid (isW_pos hw)
            clear hw
            have HG_ := Lib.hid (World.grownBy.trans HG.out hg)
            have HR_ := Lib.hid hr
            have HB_ := Lib.hid (HB.out.kept hg (by omega))
            clear hg hr HG HR HB
            have HG := HG_
            have HR := HR_
            have HB := HB_
            clear HG_ HR_ HB_
            go_wp2_with fail
            refine (bare_rd HR.out).mono ?_
            rintro e w20 ⟨hg, ⟨p, us2, v, hp, rfl, hv, hr, hle⟩ | ⟨er, at9, hp, rfl⟩⟩
            · skip
              obtain ⟨qn, ql, A, c, rfl, rfl, hl⟩ := hv.plc
              have hm3 := blk_lt HB.out
              have HQ := Lib.hid (hl.mono (ok' := fun j => B < j) (fun k hk => by omega))
              clear hm3
              clear hl hv
              have HP14 := Lib.hid hp
              have HLE14 := Lib.hid hle
              clear hp hle
              have HG_ := Lib.hid (World.grownBy.trans HG.out hg)
              have HR_ := Lib.hid hr
              have HB_ := Lib.hid (HB.out.kept hg (by omega))
              clear hg hr HG HR HB
              have HG := HG_
              have HR := HR_
              have HB := HB_
              clear HG_ HR_ HB_
              obtain ⟨lHB, cHB, fHB⟩ := HB.out.see
              have HPUT := Lib.hid (Put.set (Put.set (Put.set (Put.refl W.heap.size (B + 1) w20) (p := ⟨B, 0, none⟩) (by simp only; omega) (by simp only; omega) (.int .i64 8)) (p := ⟨B, 6, none⟩) (by simp only; omega) (by simp only; omega) (.string qn)) (p := ⟨B, 7, none⟩) (by simp only; omega) (by simp only; omega) (.slice A ql.length c))
              have HG_ := Lib.hid (HPUT.out.grown HG.out (Nat.le_refl _))
              have HR_ := Lib.hid (HR.out.put HPUT.out hR)
              have HB_ : Hid (Bx 60 (((w20.setCell ⟨B, 0, none⟩ (.int .i64 8)).setCell ⟨B, 6, none⟩ (.string qn)).setCell ⟨B, 7, none⟩ (.slice A ql.length c)) B #[.int .i64 8, .int .i64 at_, .string ⟨#[]⟩, .int .i64 0, .string ⟨#[]⟩, .slice none 0 0, .string qn, .slice A ql.length c, .int .i64 0, .slice none 0 0, .string ⟨#[]⟩, .slice none 0 0, .string ⟨#[]⟩, .string ⟨#[]⟩, .bool false, .int .i64 0, .string ⟨#[]⟩, .slice none 0 0, .slice none 0 0, .slice none 0 0, .slice none 0 0]) := Lib.hid (by have h := (((HB.out.set 0 (.int .i64 8)).set 6 (.string qn)).set 7 (.slice A ql.length c)); simpa using h)
              have HQ_ := Lib.hid (HQ.out.step (fun k hk _ => HPUT.out.block k (.inr (by omega))))
              clear HPUT HG HR HB HQ
              have HG := HG_
              have HR := HR_
              have HB := HB_
              have HQ := HQ_
              clear HG_ HR_ HB_ HQ_
              go_wp2_with fail
              clear lHB cHB fHB
              generalize (((w20.setCell ⟨B, 0, none⟩ (.int .i64 8)).setCell ⟨B, 6, none⟩ (.string qn)).setCell ⟨B, 7, none⟩ (.slice A ql.length c)) = w21 at *
              have HPF : Hid (simpleP at_ ts = .ok (.mk 8 at_ noB .zero ⟨qn, ql⟩ .zero .zero [] [] [], us2)) := Lib.hid (by rw [simpleP, optE_f HW1.out, optE_f HW7.out, optE_f HW9.out, optE_f HW11.out, optE_t HW13.out, Ps.bd_ok HP14.out]; exact rfl)
              go_end0
              exact ⟨HG.out, .inl ⟨.mk 8 at_ noB .zero ⟨qn, ql⟩ .zero .zero [] [] [], us2, [.int .i64 8, .int .i64 at_, .string ⟨#[]⟩, .int .i64 0, .string ⟨#[]⟩, .slice none 0 0, .string qn, .slice A ql.length c, .int .i64 0, .slice none 0 0, .string ⟨#[]⟩, .slice none 0 0, .string ⟨#[]⟩, .string ⟨#[]⟩, .bool false, .int .i64 0, .string ⟨#[]⟩, .slice none 0 0, .slice none 0 0, .slice none 0 0, .slice none 0 0], HPF.out, rfl, HB.out, stm_rds (by simp only [Ty.ds]; exact (Rd.nil _ _ _ _)) HQ.out (Rd.nil _ _ _ _) (Rd.nil _ _ _ _) (Rd.nil _ _ _ _) (by simp only [Stm.ds]; exact (Rd.nil _ _ _ _)) (by simp only [Stm.ds]; exact (Rd.nil _ _ _ _)) (by simp only [Arm.ds]; exact (Rd.nil _ _ _ _)), HR.out, by have := HLT13.out; have := HLE14.out; first | omega | (simp at *; done) | (simp at *; omega)⟩⟩
            · go_wp2_with fail
              exact ⟨rfl, World.grownBy.trans HG.out hg, .inr ⟨er, at9, (by rw [simpleP, optE_f HW1.out, optE_f HW7.out, optE_f HW9.out, optE_f HW11.out, optE_t HW13.out]; exact Ps.bd_err hp), rfl⟩⟩
          · skip
            have HW13 := Lib.hid hw
            clear hw
            have HG_ := Lib.hid (World.grownBy.trans HG.out hg)
            have HR_ := Lib.hid hr
            have HB_ := Lib.hid (HB.out.kept hg (by omega))
            clear hg hr HG HR HB
            have HG := HG_
            have HR := HR_
            have HB := HB_
            clear HG_ HR_ HB_
            go_wp2_with fail
            refine (place_rd HR.out).mono ?_
            rintro e w22 ⟨hg, ⟨p, us2, v, hp, rfl, hv, hr, hle⟩ | ⟨er, at9, hp, rfl⟩⟩
            · skip
              obtain ⟨qn, ql, A, c, rfl, rfl, hl⟩ := hv.plc
              have hm3 := blk_lt HB.out
              have HQ := Lib.hid (hl.mono (ok' := fun j => B < j) (fun k hk => by omega))
              clear hm3
              clear hl hv
              have HP15 := Lib.hid hp
              have HLE15 := Lib.hid hle
              clear hp hle
              have HG_ := Lib.hid (World.grownBy.trans HG.out hg)
              have HR_ := Lib.hid hr
              have HB_ := Lib.hid (HB.out.kept hg (by omega))
              clear hg hr HG HR HB
              have HG := HG_
              have HR := HR_
              have HB := HB_
              clear HG_ HR_ HB_
              obtain ⟨lHB, cHB, fHB⟩ := HB.out.see
              have HPUT := Lib.hid (Put.set (Put.set (Put.set (Put.refl W.heap.size (B + 1) w22) (p := ⟨B, 0, none⟩) (by simp only; omega) (by simp only; omega) (.int .i64 1)) (p := ⟨B, 6, none⟩) (by simp only; omega) (by simp only; omega) (.string qn)) (p := ⟨B, 7, none⟩) (by simp only; omega) (by simp only; omega) (.slice A ql.length c))
              have HG_ := Lib.hid (HPUT.out.grown HG.out (Nat.le_refl _))
              have HR_ := Lib.hid (HR.out.put HPUT.out hR)
              have HB_ : Hid (Bx 60 (((w22.setCell ⟨B, 0, none⟩ (.int .i64 1)).setCell ⟨B, 6, none⟩ (.string qn)).setCell ⟨B, 7, none⟩ (.slice A ql.length c)) B #[.int .i64 1, .int .i64 at_, .string ⟨#[]⟩, .int .i64 0, .string ⟨#[]⟩, .slice none 0 0, .string qn, .slice A ql.length c, .int .i64 0, .slice none 0 0, .string ⟨#[]⟩, .slice none 0 0, .string ⟨#[]⟩, .string ⟨#[]⟩, .bool false, .int .i64 0, .string ⟨#[]⟩, .slice none 0 0, .slice none 0 0, .slice none 0 0, .slice none 0 0]) := Lib.hid (by have h := (((HB.out.set 0 (.int .i64 1)).set 6 (.string qn)).set 7 (.slice A ql.length c)); simpa using h)
              have HQ_ := Lib.hid (HQ.out.step (fun k hk _ => HPUT.out.block k (.inr (by omega))))
              clear HPUT HG HR HB HQ
              have HG := HG_
              have HR := HR_
              have HB := HB_
              have HQ := HQ_
              clear HG_ HR_ HB_ HQ_
              go_wp2_with fail
              clear lHB cHB fHB
              generalize (((w22.setCell ⟨B, 0, none⟩ (.int .i64 1)).setCell ⟨B, 6, none⟩ (.string qn)).setCell ⟨B, 7, none⟩ (.slice A ql.length c)) = w23 at *
              refine (must_rd HR.out ⟨#[61]⟩).mono ?_
              rintro e w24 ⟨hg, ⟨⟨⟩, us4, v, hp, rfl, rfl, hr, hle⟩ | ⟨er, at9, hp, rfl⟩⟩
              · skip
                have HP16 := Lib.hid hp
                have HLE16 := Lib.hid hle
                clear hp hle
                have HG_ := Lib.hid (World.grownBy.trans HG.out hg)
                have HR_ := Lib.hid hr
                have HB_ := Lib.hid (HB.out.kept hg (by omega))
                have HQ_ := Lib.hid (HQ.out.grown hg (fun k hk e => by injection e; omega))
                clear hg hr HG HR HB HQ
                have HG := HG_
                have HR := HR_
                have HB := HB_
                have HQ := HQ_
                clear HG_ HR_ HB_ HQ_
                go_wp2_with fail
                refine (set_rd HR.out).mono ?_
                rintro e w25 ⟨hg, ⟨r, us5, v, hp, rfl, hv, hr, hle⟩ | ⟨er, at9, hp, rfl⟩⟩
                · skip
                  obtain ⟨rk, ops, pn, pl, rn, rv, A9, c9, A8, c8, rfl, rfl, hl, hl2⟩ := hv.rv
                  have hm3 := blk_lt HB.out
                  have HV1 := Lib.hid (hl.mono (ok' := fun j => B < j) (fun k hk => by omega))
                  clear hm3
                  have hm3 := blk_lt HB.out
                  have HV2 := Lib.hid (hl2.mono (ok' := fun j => B < j) (fun k hk => by omega))
                  clear hm3
                  clear hl hl2 hv
                  have HP17 := Lib.hid hp
                  have HLE17 := Lib.hid hle
                  clear hp hle
                  have HG_ := Lib.hid (World.grownBy.trans HG.out hg)
                  have HR_ := Lib.hid hr
                  have HB_ := Lib.hid (HB.out.kept hg (by omega))
                  have HQ_ := Lib.hid (HQ.out.grown hg (fun k hk e => by injection e; omega))
                  clear hg hr HG HR HB HQ
                  have HG := HG_
                  have HR := HR_
                  have HB := HB_
                  have HQ := HQ_
                  clear HG_ HR_ HB_ HQ_
                  obtain ⟨lHB, cHB, fHB⟩ := HB.out.see
                  have HPUT := Lib.hid (Put.set (Put.set (Put.set (Put.set (Put.set (Put.set (Put.refl W.heap.size (B + 1) w25) (p := ⟨B, 8, none⟩) (by simp only; omega) (by simp only; omega) (.int .i64 rk)) (p := ⟨B, 9, none⟩) (by simp only; omega) (by simp only; omega) (.slice A9 ops.length c9)) (p := ⟨B, 10, none⟩) (by simp only; omega) (by simp only; omega) (.string pn)) (p := ⟨B, 11, none⟩) (by simp only; omega) (by simp only; omega) (.slice A8 pl.length c8)) (p := ⟨B, 12, none⟩) (by simp only; omega) (by simp only; omega) (.string rn)) (p := ⟨B, 13, none⟩) (by simp only; omega) (by simp only; omega) (.string rv))
                  have HG_ := Lib.hid (HPUT.out.grown HG.out (Nat.le_refl _))
                  have HR_ := Lib.hid (HR.out.put HPUT.out hR)
                  have HB_ : Hid (Bx 60 ((((((w25.setCell ⟨B, 8, none⟩ (.int .i64 rk)).setCell ⟨B, 9, none⟩ (.slice A9 ops.length c9)).setCell ⟨B, 10, none⟩ (.string pn)).setCell ⟨B, 11, none⟩ (.slice A8 pl.length c8)).setCell ⟨B, 12, none⟩ (.string rn)).setCell ⟨B, 13, none⟩ (.string rv)) B #[.int .i64 1, .int .i64 at_, .string ⟨#[]⟩, .int .i64 0, .string ⟨#[]⟩, .slice none 0 0, .string qn, .slice A ql.length c, .int .i64 rk, .slice A9 ops.length c9, .string pn, .slice A8 pl.length c8, .string rn, .string rv, .bool false, .int .i64 0, .string ⟨#[]⟩, .slice none 0 0, .slice none 0 0, .slice none 0 0, .slice none 0 0]) := Lib.hid (by have h := ((((((HB.out.set 8 (.int .i64 rk)).set 9 (.slice A9 ops.length c9)).set 10 (.string pn)).set 11 (.slice A8 pl.length c8)).set 12 (.string rn)).set 13 (.string rv)); simpa using h)
                  have HQ_ := Lib.hid (HQ.out.step (fun k hk _ => HPUT.out.block k (.inr (by omega))))
                  have HV1_ := Lib.hid (HV1.out.step (fun k hk _ => HPUT.out.block k (.inr (by omega))))
                  have HV2_ := Lib.hid (HV2.out.step (fun k hk _ => HPUT.out.block k (.inr (by omega))))
                  clear HPUT HG HR HB HQ HV1 HV2
                  have HG := HG_
                  have HR := HR_
                  have HB := HB_
                  have HQ := HQ_
                  have HV1 := HV1_
                  have HV2 := HV2_
                  clear HG_ HR_ HB_ HQ_ HV1_ HV2_
                  go_wp2_with fail
                  clear lHB cHB fHB
                  generalize ((((((w25.setCell ⟨B, 8, none⟩ (.int .i64 rk)).setCell ⟨B, 9, none⟩ (.slice A9 ops.length c9)).setCell ⟨B, 10, none⟩ (.string pn)).setCell ⟨B, 11, none⟩ (.slice A8 pl.length c8)).setCell ⟨B, 12, none⟩ (.string rn)).setCell ⟨B, 13, none⟩ (.string rv)) = w26 at *
                  have HPF : Hid (simpleP at_ ts = .ok (.mk 1 at_ noB .zero ⟨qn, ql⟩ ⟨rk, ops, ⟨pn, pl⟩, rn, rv⟩ .zero [] [] [], us5)) := Lib.hid (by rw [simpleP, optE_f HW1.out, optE_f HW7.out, optE_f HW9.out, optE_f HW11.out, optE_f HW13.out, Ps.bd_ok HP15.out, Ps.bd_ok HP16.out, Ps.bd_ok HP17.out]; exact rfl)
                  go_end0
                  exact ⟨HG.out, .inl ⟨.mk 1 at_ noB .zero ⟨qn, ql⟩ ⟨rk, ops, ⟨pn, pl⟩, rn, rv⟩ .zero [] [] [], us5, [.int .i64 1, .int .i64 at_, .string ⟨#[]⟩, .int .i64 0, .string ⟨#[]⟩, .slice none 0 0, .string qn, .slice A ql.length c, .int .i64 rk, .slice A9 ops.length c9, .string pn, .slice A8 pl.length c8, .string rn, .string rv, .bool false, .int .i64 0, .string ⟨#[]⟩, .slice none 0 0, .slice none 0 0, .slice none 0 0, .slice none 0 0], HPF.out, rfl, HB.out, stm_rds (by simp only [Ty.ds]; exact (Rd.nil _ _ _ _)) HQ.out HV1.out HV2.out (Rd.nil _ _ _ _) (by simp only [Stm.ds]; exact (Rd.nil _ _ _ _)) (by simp only [Stm.ds]; exact (Rd.nil _ _ _ _)) (by simp only [Arm.ds]; exact (Rd.nil _ _ _ _)), HR.out, by have := HLE15.out; have := HLE16.out; have := HLE17.out; first | omega | (simp at *; done) | (simp at *; omega)⟩⟩
                · go_wp2_with fail
                  exact ⟨rfl, World.grownBy.trans HG.out hg, .inr ⟨er, at9, (by rw [simpleP, optE_f HW1.out, optE_f HW7.out, optE_f HW9.out, optE_f HW11.out, optE_f HW13.out, Ps.bd_ok HP15.out, Ps.bd_ok HP16.out]; exact Ps.bd_err hp), rfl⟩⟩
              · go_wp2_with fail
                exact ⟨rfl, World.grownBy.trans HG.out hg, .inr ⟨er, at9, (by rw [simpleP, optE_f HW1.out, optE_f HW7.out, optE_f HW9.out, optE_f HW11.out, optE_f HW13.out, Ps.bd_ok HP15.out]; exact Ps.bd_err hp), rfl⟩⟩
            · go_wp2_with fail
              exact ⟨rfl, World.grownBy.trans HG.out hg, .inr ⟨er, at9, (by rw [simpleP, optE_f HW1.out, optE_f HW7.out, optE_f HW9.out, optE_f HW11.out, optE_f HW13.out]; exact Ps.bd_err hp), rfl⟩⟩
end Go.Proofs.YtjoiflokekebkaaGreatDoor
end

section
/- Walks: an arm, a statement. -/
namespace Go.Proofs.YtjoiflokekebkaaGreatDoor
open Go.RowKit Go.Proofs.YtjoiflokekebkaaGreatDoorW.PrintLast

theorem Ty.ds_length (a : List Ty) : (Ty.ds a).length = a.length := by
  induction a with
  | nil => simp [Ty.ds]
  | cons x a ih => simp [Ty.ds, ih]
theorem stm_open {w : World} {ok : Nat → Prop} {cs : List Value} {x : Stm} (h : Rds w ok cs (Stm.d x)) :
    ∃ k at_ n tk tn tl pn pl rk ops rpn rpl rn rv b on om ol th el arms A1 c1 A2 c2 A3 c3 A4 c4 A5 c5 A6 c6 A7 c7 A8 c8, x = .mk k at_ n (.mk tk tn tl) ⟨pn, pl⟩ ⟨rk, ops, ⟨rpn, rpl⟩, rn, rv⟩ ⟨b, on, ⟨om, ol⟩⟩ th el arms ∧ cs = [.int .i64 k, .int .i64 at_, .string n, .int .i64 tk, .string tn, .slice A1 tl.length c1, .string pn, .slice A2 pl.length c2, .int .i64 rk, .slice A3 ops.length c3, .string rpn, .slice A4 rpl.length c4, .string rn, .string rv, .bool b, .int .i64 on, .string om, .slice A5 ol.length c5, .slice A6 th.length c6, .slice A7 el.length c7, .slice A8 arms.length c8] ∧
      Rd w ok (.slice A1 tl.length c1) (.row 37 3 (Ty.ds tl)) ∧ Rd w ok (.slice A2 pl.length c2) (.row 104 1 (pl.map stepD)) ∧ Rd w ok (.slice A3 ops.length c3) (.row 53 4 (ops.map Opr.d)) ∧ Rd w ok (.slice A4 rpl.length c4) (.row 104 1 (rpl.map stepD)) ∧ Rd w ok (.slice A5 ol.length c5) (.row 104 1 (ol.map stepD)) ∧ Rd w ok (.slice A6 th.length c6) (.row 60 21 (Stm.ds th)) ∧ Rd w ok (.slice A7 el.length c7) (.row 60 21 (Stm.ds el)) ∧ Rd w ok (.slice A8 arms.length c8) (.row 95 3 (Arm.ds arms)) := by
  obtain ⟨k, at_, n, ⟨tk, tn, tl⟩, ⟨pn, pl⟩, ⟨rk, ops, ⟨rpn, rpl⟩, rn, rv⟩, ⟨b, on, ⟨om, ol⟩⟩, th, el, arms⟩ := x
  simp only [Stm.d, Ty.d] at h
  match cs, h with
  | [a0, a1, a2, a3, a4, a5, a6, a7, a8, a9, a10, a11, a12, a13, a14, a15, a16, a17, a18, a19, a20], h =>
    obtain ⟨h0, h1, h2, h3, h4, h5, h6, h7, h8, h9, h10, h11, h12, h13, h14, h15, h16, h17, h18, h19, h20, _⟩ := h
    obtain rfl := h0.v_eq
    obtain rfl := h1.v_eq
    obtain rfl := h2.v_eq
    obtain rfl := h3.v_eq
    obtain rfl := h4.v_eq
    obtain rfl := h6.v_eq
    obtain rfl := h8.v_eq
    obtain rfl := h10.v_eq
    obtain rfl := h12.v_eq
    obtain rfl := h13.v_eq
    obtain rfl := h14.v_eq
    obtain rfl := h15.v_eq
    obtain rfl := h16.v_eq
    obtain ⟨A1, c1, rfl⟩ := h5.slice
    obtain ⟨A2, c2, rfl⟩ := h7.slice
    obtain ⟨A3, c3, rfl⟩ := h9.slice
    obtain ⟨A4, c4, rfl⟩ := h11.slice
    obtain ⟨A5, c5, rfl⟩ := h17.slice
    obtain ⟨A6, c6, rfl⟩ := h18.slice
    obtain ⟨A7, c7, rfl⟩ := h19.slice
    obtain ⟨A8, c8, rfl⟩ := h20.slice
    simp only [Ty.ds_length, Stm.ds_length, Arm.ds_length, List.length_map] at h5 h7 h9 h11 h17 h18 h19 h20 ⊢
    exact ⟨k, at_, n, tk, tn, tl, pn, pl, rk, ops, rpn, rpl, rn, rv, b, on, om, ol, th, el, arms, A1, c1, A2, c2, A3, c3, A4, c4, A5, c5, A6, c6, A7, c7, A8, c8, rfl, rfl, h5, h7, h9, h11, h17, h18, h19, h20⟩

theorem Leads.arm_mk {W W' : World} {v b : ByteArray} {l : List Stm} {u : Value} (h : Rd W' (fun j => W.heap.size ≤ j) u (.row 60 21 (Stm.ds l))) : Leads W Arm.d W' (.agg #[.string v, .string b, u]) (.mk v b l) :=
  ⟨[.string v, .string b, u], rfl, by simp only [Arm.d]; exact ⟨.v _, .v _, h, trivial⟩⟩
theorem Leads.arm {W W' : World} {v : Value} {x : Arm} (h : Leads W Arm.d W' v x) : ∃ vn b l A c, x = .mk vn b l ∧ v = .agg #[.string vn, .string b, .slice A l.length c] ∧ Rd W' (fun j => W.heap.size ≤ j) (.slice A l.length c) (.row 60 21 (Stm.ds l)) := by
  obtain ⟨cs, rfl, hc⟩ := h
  obtain ⟨vn, b, l⟩ := x
  simp only [Arm.d] at hc
  match cs, hc with
  | [a0, a1, u], hc =>
    obtain ⟨h1, h2, h3, _⟩ := hc
    obtain rfl := h1.v_eq
    obtain rfl := h2.v_eq
    obtain ⟨A, c, rfl⟩ := h3.slice
    rw [Stm.ds_length] at h3 ⊢
    exact ⟨vn, b, l, A, c, rfl, rfl, h3⟩
/-- The contract of a block's reader. -/
def BlkOk (k : Nat) : Prop := ∀ (d : Int), 0 ≤ d → d + k = 61 → ∀ (W : World) (R : Nat) (ts : List Tk), Rdr W R ts →
  Calls Tryz.prog 167 #[.pointer (some ⟨R, 0, none⟩), .int .i64 d] W fun e W' => Does (blockP k) (fun W' v l => Rd W' (fun j => W.heap.size ≤ j) v (.row 60 21 (Stm.ds l))) W R ts e W'
theorem info_Arm : (Tryz.prog.info? 95).map (fun i => (i.zero, i.size, i.bytes)) = some (some (.agg #[.string ⟨#[]⟩, .string ⟨#[]⟩, .slice none 0 0]), 3, 56) := by kernel_rfl
/-- What has been since a box was laid. -/
def Since (W : World) (m R x : Nat) (cs : Array Value) (w : World) : Prop := ∃ w1 : World, w1.heap.size = m ∧ W.grownBy w1 (some R) ∧ w1.grownBy w (some R) ∧ Bx 60 w1 x cs
theorem Since.kept {W : World} {m R x : Nat} {cs : Array Value} {w w' : World} (h : Since W m R x cs w) (hg : w.grownBy w' (some R)) : Since W m R x cs w' := by
  obtain ⟨w1, h1, h0, h2, h3⟩ := h
  exact ⟨w1, h1, h0, World.grownBy.trans h2 hg, h3⟩
section
variable {blk : Ps (List Stm)} {n : Nat} {acc : List Arm} {f : List Arm → Stm} {ts us : List Tk} {x : Arm}
theorem arms_t (hw : isW (⟨#[125]⟩ : ByteArray) ts = false) (hx : armP blk ts = .ok (x, us)) : ((armsP blk (n + 1)).bd fun l => Ps.ret (f (acc ++ l))) ts = ((armsP blk n).bd fun l => Ps.ret (f ((acc ++ [x]) ++ l))) us := by
  have h : armsP blk (n + 1) ts = ((armP blk).bd fun a => (armsP blk n).bd fun l => .ret (a :: l)) ts := optE_f hw
  rw [Ps.bd_ok hx] at h
  unfold Ps.bd at h ⊢
  rw [h]
  cases armsP blk n us with
  | error e => rfl
  | ok q => simp [Ps.ret]
theorem arms_e {e : Int × Int} (hw : isW (⟨#[125]⟩ : ByteArray) ts = false) (hx : armP blk ts = .error e) : ((armsP blk (n + 1)).bd fun l => Ps.ret (f (acc ++ l))) ts = .error e := by
  have h : armsP blk (n + 1) ts = ((armP blk).bd fun a => (armsP blk n).bd fun l => .ret (a :: l)) ts := optE_f hw
  rw [Ps.bd_err hx] at h
  exact Ps.bd_err h
theorem arms_f (hw : isW (⟨#[125]⟩ : ByteArray) ts = true) : ((armsP blk (n + 1)).bd fun l => Ps.ret (f (acc ++ l))) ts = .ok (f acc, ts.tail) := by
  have h : armsP blk (n + 1) ts = .ok ([], ts.tail) := optE_t hw
  rw [Ps.bd_ok h]
  simp [Ps.ret]
end

set_option maxRecDepth 100000 in
set_option maxHeartbeats 2000000 in
theorem arm_rd {W : World} {R : Nat} {ts : List Tk} (h : Rdr W R ts) {k : Nat} (ih : BlkOk k) (d : Int) (h0 : 0 ≤ d) (hd : d + 1 + k = 61) : Calls Tryz.prog 217 #[.pointer (some ⟨R, 0, none⟩), .int .i64 d] W fun e W' => Does (armP (blockP k)) (Leads W Arm.d) W R ts e W' := by
  have hR := h.lt
  have hlen := h.ok.len
  have hd61 : d ≤ 61 := by omega
  have IH := Lib.hid (fun w us (h : Rdr w R us) => ih (d + 1) (by omega) hd w R us h)
  clear ih hd
  have HR := Lib.hid (h.below ((Below.refl (R + 1) W).alloc (by omega) (.cells #[.string ⟨#[]⟩, .string ⟨#[]⟩, .slice none 0 0] 95)) (by omega))
  have HG := Lib.hid (grown_alloc (World.grownBy.refl W (some R)) (.cells #[.string ⟨#[]⟩, .string ⟨#[]⟩, .slice none 0 0] 95))
  have HX := Lib.hid (.newAt rfl : Bx 95 (W.alloc (.cells #[.string ⟨#[]⟩, .string ⟨#[]⟩, .slice none 0 0] 95)) W.heap.size #[.string ⟨#[]⟩, .string ⟨#[]⟩, .slice none 0 0])
  clear h
  go_enter Tryz.func217, Tryz.ntmps217
  go_wp2_with fail
  generalize (W.alloc (.cells #[.string ⟨#[]⟩, .string ⟨#[]⟩, .slice none 0 0] 95)) = w1 at *
  refine (name_rd HR.out true).mono ?_
  rintro e w2 ⟨hg, ⟨vn, us, v, hp, rfl, rfl, hr, hle⟩ | ⟨er, at_, hp, rfl⟩⟩
  · skip
    have HP1 := Lib.hid hp
    have HLE1 := Lib.hid hle
    clear hp hle
    have HG_ := Lib.hid (World.grownBy.trans HG.out hg)
    have HR_ := Lib.hid hr
    have HX_ := Lib.hid (HX.out.kept hg (by omega))
    clear hg hr HG HR HX
    have HG := HG_
    have HR := HR_
    have HX := HX_
    clear HG_ HR_ HX_
    have hlm : W.heap.size < w2.heap.size := blk_lt HX.out
    have HG_ := Lib.hid (grown_alloc HG.out (.cells #[.string vn, .string ⟨#[]⟩, .slice none 0 0] 95))
    have HR_ := Lib.hid (HR.out.below (bel_one HR.out.lt (.cells #[.string vn, .string ⟨#[]⟩, .slice none 0 0] 95)) (by omega))
    have HX_ := Lib.hid (HX.out.alloc (.cells #[.string vn, .string ⟨#[]⟩, .slice none 0 0] 95))
    have HY_ : Hid (Bx 95 (w2.alloc (.cells #[.string vn, .string ⟨#[]⟩, .slice none 0 0] 95)) w2.heap.size #[.string vn, .string ⟨#[]⟩, .slice none 0 0]) := Lib.hid (.newAt rfl)
    clear HG HR HX
    have HG := HG_
    have HR := HR_
    have HX := HX_
    clear HG_ HR_ HX_
    have HY := HY_
    clear HY_
    go_wp2_with fail
    generalize w2.alloc (.cells #[.string vn, .string ⟨#[]⟩, .slice none 0 0] 95) = w3 at *
    generalize w2.heap.size = m at *
    refine (opt_rd HR.out ⟨#[40]⟩).mono ?_
    rintro e w4 ⟨hg, ⟨hw, rfl, hr⟩ | ⟨hw, rfl, hr⟩⟩
    · skip
      have HW2 := Lib.hid hw
      have HLT2 := Lib.hid (isW_pos hw)
      clear hw
      have HG_ := Lib.hid (World.grownBy.trans HG.out hg)
      have HR_ := Lib.hid hr
      have HX_ := Lib.hid (HX.out.kept hg (by omega))
      have HY_ := Lib.hid (HY.out.kept hg (by omega))
      clear hg hr HG HR HX HY
      have HG := HG_
      have HR := HR_
      have HX := HX_
      have HY := HY_
      clear HG_ HR_ HX_ HY_
      go_wp2_with fail
      refine (name_rd HR.out false).mono ?_
      rintro e w5 ⟨hg, ⟨bn, us2, v, hp, rfl, rfl, hr, hle⟩ | ⟨er, at_, hp, rfl⟩⟩
      · skip
        have HP3 := Lib.hid hp
        have HLE3 := Lib.hid hle
        clear hp hle
        have HG_ := Lib.hid (World.grownBy.trans HG.out hg)
        have HR_ := Lib.hid hr
        have HX_ := Lib.hid (HX.out.kept hg (by omega))
        have HY_ := Lib.hid (HY.out.kept hg (by omega))
        clear hg hr HG HR HX HY
        have HG := HG_
        have HR := HR_
        have HX := HX_
        have HY := HY_
        clear HG_ HR_ HX_ HY_
        obtain ⟨lHX, cHX, fHX⟩ := HX.out.see
        obtain ⟨lHY, cHY, fHY⟩ := HY.out.see
        have hne01 : (W.heap.size = m) = False := eq_false (by omega)
        have hne10 : (m = W.heap.size) = False := eq_false (by omega)
        have HPUT := Lib.hid (Put.set (Put.refl W.heap.size (m + 1) w5) (p := ⟨m, 1, none⟩) (by simp only; omega) (by simp only; omega) (.string bn))
        have HG_ := Lib.hid (HPUT.out.grown HG.out (Nat.le_refl _))
        have HR_ := Lib.hid (HR.out.put HPUT.out hR)
        have HX_ := Lib.hid (HX.out.far (p := ⟨m, 1, none⟩) (by simp only; omega) (.string bn))
        have HY_ : Hid (Bx 95 (w5.setCell ⟨m, 1, none⟩ (.string bn)) m #[.string vn, .string bn, .slice none 0 0]) := Lib.hid (by have h := (HY.out.set 1 (.string bn)); simpa using h)
        clear HPUT HG HR HX HY
        have HG := HG_
        have HR := HR_
        have HX := HX_
        have HY := HY_
        clear HG_ HR_ HX_ HY_
        go_wp2_with fail
        clear lHX cHX fHX lHY cHY fHY hne01 hne10
        generalize (w5.setCell ⟨m, 1, none⟩ (.string bn)) = w6 at *
        refine (must_rd HR.out ⟨#[41]⟩).mono ?_
        rintro e w7 ⟨hg, ⟨⟨⟩, us3, v, hp, rfl, rfl, hr, hle⟩ | ⟨er, at_, hp, rfl⟩⟩
        · skip
          have HP4 := Lib.hid hp
          have HLE4 := Lib.hid hle
          clear hp hle
          have HG_ := Lib.hid (World.grownBy.trans HG.out hg)
          have HR_ := Lib.hid hr
          have HX_ := Lib.hid (HX.out.kept hg (by omega))
          have HY_ := Lib.hid (HY.out.kept hg (by omega))
          clear hg hr HG HR HX HY
          have HG := HG_
          have HR := HR_
          have HX := HX_
          have HY := HY_
          clear HG_ HR_ HX_ HY_
          go_wp2_with fail
          refine (must_rd HR.out ⟨#[61, 62]⟩).mono ?_
          rintro e w8 ⟨hg, ⟨⟨⟩, us4, v, hp, rfl, rfl, hr, hle⟩ | ⟨er, at_, hp, rfl⟩⟩
          · skip
            have HP5 := Lib.hid hp
            have HLE5 := Lib.hid hle
            clear hp hle
            have HG_ := Lib.hid (World.grownBy.trans HG.out hg)
            have HR_ := Lib.hid hr
            have HX_ := Lib.hid (HX.out.kept hg (by omega))
            have HY_ := Lib.hid (HY.out.kept hg (by omega))
            clear hg hr HG HR HX HY
            have HG := HG_
            have HR := HR_
            have HX := HX_
            have HY := HY_
            clear HG_ HR_ HX_ HY_
            go_wp2_with fail
            refine (IH.out _ _ HR.out).mono ?_
            rintro e w9 ⟨hg, ⟨l, us5, v, hp, rfl, hv, hr, hle⟩ | ⟨er, at_, hp, rfl⟩⟩
            · skip
              obtain ⟨A, c, rfl⟩ := hv.slice
              rw [Stm.ds_length] at hv ⊢
              have hm3 := blk_lt HY.out
              have HL := Lib.hid (hv.low (m := m + 1) (by omega))
              clear hv hm3
              have HP6 := Lib.hid hp
              have HLE6 := Lib.hid hle
              clear hp hle
              have HG_ := Lib.hid (World.grownBy.trans HG.out hg)
              have HR_ := Lib.hid hr
              have HX_ := Lib.hid (HX.out.kept hg (by omega))
              have HY_ := Lib.hid (HY.out.kept hg (by omega))
              clear hg hr HG HR HX HY
              have HG := HG_
              have HR := HR_
              have HX := HX_
              have HY := HY_
              clear HG_ HR_ HX_ HY_
              have HPF : Hid ((armP (blockP k)) ts = .ok (.mk vn bn l, us5)) := Lib.hid (by rw [armP, Ps.bd_ok HP1.out, optE_t HW2.out, Ps.bd_ok HP3.out, Ps.bd_ok HP4.out, Ps.bd_ok HP5.out, Ps.bd_ok HP6.out]; exact rfl)
              have HPUT : ∀ w', Put W.heap.size (m + 1) w9 w' → Does (armP (blockP k)) (Leads W Arm.d) W R ts (.returned (.agg #[.string vn, .string bn, .slice A l.length c])) w' := fun w' hput => ⟨hput.grown HG.out (Nat.le_refl _), .inl ⟨.mk vn bn l, us5, _, HPF.out, rfl, Leads.arm_mk ((HL.out.put hput (Nat.le_refl _)).low (by omega)), HR.out.put hput hR, by have := HLE1.out; have := HLT2.out; have := HLE3.out; have := HLE4.out; have := HLE5.out; have := HLE6.out; first | omega | (simp at *; done) | (simp at *; omega)⟩⟩
              obtain ⟨lHX, cHX, fHX⟩ := HX.out.see
              obtain ⟨lHY, cHY, fHY⟩ := HY.out.see
              have hne01 : (W.heap.size = m) = False := eq_false (by omega)
              have hne10 : (m = W.heap.size) = False := eq_false (by omega)
              go_wp2_with fail
              refine bodyPost_ret (v := .agg #[.string vn, .string bn, .slice A l.length c]) (by (simp only [results, Tryz.results217]); go_simp) rfl (HPUT _ ?_)
              repeat (first | with_reducible exact Put.refl _ _ _ | (with_reducible refine Put.set ?_ ?_ ?_ _; rotate_left; (simp only; omega); (simp only; omega)))
            · go_wp2_with fail
              exact ⟨rfl, World.grownBy.trans HG.out hg, .inr ⟨er, at_, (by rw [armP, Ps.bd_ok HP1.out, optE_t HW2.out, Ps.bd_ok HP3.out, Ps.bd_ok HP4.out, Ps.bd_ok HP5.out]; exact Ps.bd_err hp), rfl⟩⟩
          · go_wp2_with fail
            exact ⟨rfl, World.grownBy.trans HG.out hg, .inr ⟨er, at_, (by rw [armP, Ps.bd_ok HP1.out, optE_t HW2.out, Ps.bd_ok HP3.out, Ps.bd_ok HP4.out]; exact Ps.bd_err hp), rfl⟩⟩
        · go_wp2_with fail
          exact ⟨rfl, World.grownBy.trans HG.out hg, .inr ⟨er, at_, (by rw [armP, Ps.bd_ok HP1.out, optE_t HW2.out, Ps.bd_ok HP3.out]; exact Ps.bd_err hp), rfl⟩⟩
      · go_wp2_with fail
        exact ⟨rfl, World.grownBy.trans HG.out hg, .inr ⟨er, at_, (by rw [armP, Ps.bd_ok HP1.out, optE_t HW2.out]; exact Ps.bd_err hp), rfl⟩⟩
    · skip
      have HW2 := Lib.hid hw
      clear hw
      have HG_ := Lib.hid (World.grownBy.trans HG.out hg)
      have HR_ := Lib.hid hr
      have HX_ := Lib.hid (HX.out.kept hg (by omega))
      have HY_ := Lib.hid (HY.out.kept hg (by omega))
      clear hg hr HG HR HX HY
      have HG := HG_
      have HR := HR_
      have HX := HX_
      have HY := HY_
      clear HG_ HR_ HX_ HY_
      go_wp2_with fail
      refine (must_rd HR.out ⟨#[61, 62]⟩).mono ?_
      rintro e w10 ⟨hg, ⟨⟨⟩, us2, v, hp, rfl, rfl, hr, hle⟩ | ⟨er, at_, hp, rfl⟩⟩
      · skip
        have HP7 := Lib.hid hp
        have HLE7 := Lib.hid hle
        clear hp hle
        have HG_ := Lib.hid (World.grownBy.trans HG.out hg)
        have HR_ := Lib.hid hr
        have HX_ := Lib.hid (HX.out.kept hg (by omega))
        have HY_ := Lib.hid (HY.out.kept hg (by omega))
        clear hg hr HG HR HX HY
        have HG := HG_
        have HR := HR_
        have HX := HX_
        have HY := HY_
        clear HG_ HR_ HX_ HY_
        go_wp2_with fail
        refine (IH.out _ _ HR.out).mono ?_
        rintro e w11 ⟨hg, ⟨l, us3, v, hp, rfl, hv, hr, hle⟩ | ⟨er, at_, hp, rfl⟩⟩
        · skip
          obtain ⟨A, c, rfl⟩ := hv.slice
          rw [Stm.ds_length] at hv ⊢
          have hm3 := blk_lt HY.out
          have HL := Lib.hid (hv.low (m := m + 1) (by omega))
          clear hv hm3
          have HP8 := Lib.hid hp
          have HLE8 := Lib.hid hle
          clear hp hle
          have HG_ := Lib.hid (World.grownBy.trans HG.out hg)
          have HR_ := Lib.hid hr
          have HX_ := Lib.hid (HX.out.kept hg (by omega))
          have HY_ := Lib.hid (HY.out.kept hg (by omega))
          clear hg hr HG HR HX HY
          have HG := HG_
          have HR := HR_
          have HX := HX_
          have HY := HY_
          clear HG_ HR_ HX_ HY_
          have HPF : Hid ((armP (blockP k)) ts = .ok (.mk vn noB l, us3)) := Lib.hid (by rw [armP, Ps.bd_ok HP1.out, optE_f HW2.out, Ps.bd_ok HP7.out, Ps.bd_ok HP8.out]; exact rfl)
          have HPUT : ∀ w', Put W.heap.size (m + 1) w11 w' → Does (armP (blockP k)) (Leads W Arm.d) W R ts (.returned (.agg #[.string vn, .string ⟨#[]⟩, .slice A l.length c])) w' := fun w' hput => ⟨hput.grown HG.out (Nat.le_refl _), .inl ⟨.mk vn noB l, us3, _, HPF.out, rfl, Leads.arm_mk ((HL.out.put hput (Nat.le_refl _)).low (by omega)), HR.out.put hput hR, by have := HLE1.out; have := HLE7.out; have := HLE8.out; first | omega | (simp at *; done) | (simp at *; omega)⟩⟩
          obtain ⟨lHX, cHX, fHX⟩ := HX.out.see
          obtain ⟨lHY, cHY, fHY⟩ := HY.out.see
          have hne01 : (W.heap.size = m) = False := eq_false (by omega)
          have hne10 : (m = W.heap.size) = False := eq_false (by omega)
          go_wp2_with fail
          refine bodyPost_ret (v := .agg #[.string vn, .string ⟨#[]⟩, .slice A l.length c]) (by (simp only [results, Tryz.results217]); go_simp) rfl (HPUT _ ?_)
          repeat (first | with_reducible exact Put.refl _ _ _ | (with_reducible refine Put.set ?_ ?_ ?_ _; rotate_left; (simp only; omega); (simp only; omega)))
        · go_wp2_with fail
          exact ⟨rfl, World.grownBy.trans HG.out hg, .inr ⟨er, at_, (by rw [armP, Ps.bd_ok HP1.out, optE_f HW2.out, Ps.bd_ok HP7.out]; exact Ps.bd_err hp), rfl⟩⟩
      · go_wp2_with fail
        exact ⟨rfl, World.grownBy.trans HG.out hg, .inr ⟨er, at_, (by rw [armP, Ps.bd_ok HP1.out, optE_f HW2.out]; exact Ps.bd_err hp), rfl⟩⟩
  · go_wp2_with fail
    exact ⟨rfl, World.grownBy.trans HG.out hg, .inr ⟨er, at_, (by rw [armP]; exact Ps.bd_err hp), rfl⟩⟩
end Go.Proofs.YtjoiflokekebkaaGreatDoor
end
