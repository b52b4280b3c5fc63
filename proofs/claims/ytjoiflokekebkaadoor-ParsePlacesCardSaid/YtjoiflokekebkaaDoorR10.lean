/- Walks: what is set. -/
import Derived.Test.YtjoiflokekebkaaDoorRg
set_option linter.all false
namespace Go.Proofs.YtjoiflokekebkaaDoor
open Go.RowKit Go.Proofs.YtjoiflokekebkaaDoorW.PrintLast

set_option maxRecDepth 100000 in
set_option maxHeartbeats 8000000 in
theorem set_rd {W : World} {R : Nat} {ts : List Tk} (h : Rdr W R ts) : Calls Tryd.prog 67 #[.pointer (some ⟨R, 0, none⟩)] W fun e W' => Does (setP) (Leads W Rvl.d) W R ts e W' := by
  have hR := h.lt
  have hlen := h.ok.len
  have HR := Lib.hid (h.below ((Below.refl (R + 1) W).alloc (by omega) (.cells #[.int .i64 0, .slice none 0 0, .string ⟨#[]⟩, .slice none 0 0, .string ⟨#[]⟩, .string ⟨#[]⟩] 60)) (by omega))
  have HG := Lib.hid (grown_alloc (World.grownBy.refl W (some R)) (.cells #[.int .i64 0, .slice none 0 0, .string ⟨#[]⟩, .slice none 0 0, .string ⟨#[]⟩, .string ⟨#[]⟩] 60))
  have HX := Lib.hid (.newAt rfl : Bx 60 (W.alloc (.cells #[.int .i64 0, .slice none 0 0, .string ⟨#[]⟩, .slice none 0 0, .string ⟨#[]⟩, .string ⟨#[]⟩] 60)) W.heap.size #[.int .i64 0, .slice none 0 0, .string ⟨#[]⟩, .slice none 0 0, .string ⟨#[]⟩, .string ⟨#[]⟩])
  clear h
  go_enter Tryd.func67, Tryd.ntmps67
  go_wp2_with fail
  generalize (W.alloc (.cells #[.int .i64 0, .slice none 0 0, .string ⟨#[]⟩, .slice none 0 0, .string ⟨#[]⟩, .string ⟨#[]⟩] 60)) = w1 at *
  refine (opt_rd HR.out ⟨#[38]⟩).mono ?_
  rintro e w2 ⟨hg, ⟨hw, rfl, hr⟩ | ⟨hw, rfl, hr⟩⟩
  · skip
    have HW1 := Lib.hid hw
    have HLT1 := Lib.hid (isW_pos hw)
    clear hw
    have HG_ := Lib.hid (World.grownBy.trans HG.out hg)
    have HR_ := Lib.hid hr
    have HX_ := Lib.hid (HX.out.kept hg (by omega))
    clear hg hr HG HR HX
    have HG := HG_
    have HR := HR_
    have HX := HX_
    clear HG_ HR_ HX_
    go_wp2_with fail
    refine (opt_rd HR.out ⟨#[109, 117, 116]⟩).mono ?_
    rintro e w3 ⟨hg, ⟨hw, rfl, hr⟩ | ⟨hw, rfl, hr⟩⟩
    · skip
      have HW2 := Lib.hid hw
      have HLT2 := Lib.hid (isW_pos hw)
      clear hw
      have HG_ := Lib.hid (World.grownBy.trans HG.out hg)
      have HR_ := Lib.hid hr
      have HX_ := Lib.hid (HX.out.kept hg (by omega))
      clear hg hr HG HR HX
      have HG := HG_
      have HR := HR_
      have HX := HX_
      clear HG_ HR_ HX_
      go_wp2_with fail
      refine (place_rd HR.out).mono ?_
      rintro e w4 ⟨hg, ⟨p, us2, v, hp, rfl, hv, hr, hle⟩ | ⟨er, at_, hp, rfl⟩⟩
      · skip
        obtain ⟨n', l', A, c, rfl, rfl, hl⟩ := hv.plc
        have hm3 := blk_lt HX.out
        have HL := Lib.hid (hl.low (m := W.heap.size + 1) (by omega))
        clear hl hv hm3
        have HP3 := Lib.hid hp
        have HLE3 := Lib.hid hle
        clear hp hle
        have HG_ := Lib.hid (World.grownBy.trans HG.out hg)
        have HR_ := Lib.hid hr
        have HX_ := Lib.hid (HX.out.kept hg (by omega))
        clear hg hr HG HR HX
        have HG := HG_
        have HR := HR_
        have HX := HX_
        clear HG_ HR_ HX_
        have HPF : Hid ((setP) ts = .ok (⟨7, [], ⟨n', l'⟩, noB, noB⟩, us2)) := Lib.hid (by rw [setP, optE_t HW1.out, optE_t HW2.out, Ps.bd_ok HP3.out]; exact rfl)
        have HPUT : ∀ w', Put W.heap.size (W.heap.size + 1) w4 w' → Does (setP) (Leads W Rvl.d) W R ts (.returned (.agg #[.int .i64 7, .slice none 0 0, .string n', .slice A l'.length c, .string ⟨#[]⟩, .string ⟨#[]⟩])) w' := fun w' hput => ⟨hput.grown HG.out (Nat.le_refl _), .inl ⟨⟨7, [], ⟨n', l'⟩, noB, noB⟩, us2, _, HPF.out, rfl, Leads.rv_mk (by exact Rd.nil _ _ _ _) ((HL.out.put hput (Nat.le_refl _)).low (by omega)), HR.out.put hput hR, by have := HLT1.out; have := HLT2.out; have := HLE3.out; first | omega | (simp at *; done) | (simp at *; omega)⟩⟩
        obtain ⟨lHX, cHX, fHX⟩ := HX.out.see
        go_wp2_with fail
        refine bodyPost_ret (v := .agg #[.int .i64 7, .slice none 0 0, .string n', .slice A l'.length c, .string ⟨#[]⟩, .string ⟨#[]⟩]) (by (simp only [results, Tryd.results67]); go_simp) rfl (HPUT _ ?_)
        repeat (first | with_reducible exact Put.refl _ _ _ | (with_reducible refine Put.set ?_ ?_ ?_ _; rotate_left; (simp only; omega); (simp only; omega)))
      · go_wp2_with fail
        exact ⟨rfl, World.grownBy.trans HG.out hg, .inr ⟨er, at_, (by rw [setP, optE_t HW1.out, optE_t HW2.out]; exact Ps.bd_err hp), rfl⟩⟩
    · skip
      have HW2 := Lib.hid hw
      clear hw
      have HG_ := Lib.hid (World.grownBy.trans HG.out hg)
      have HR_ := Lib.hid hr
      have HX_ := Lib.hid (HX.out.kept hg (by omega))
      clear hg hr HG HR HX
      have HG := HG_
      have HR := HR_
      have HX := HX_
      clear HG_ HR_ HX_
      go_wp2_with fail
      refine (place_rd HR.out).mono ?_
      rintro e w5 ⟨hg, ⟨p, us2, v, hp, rfl, hv, hr, hle⟩ | ⟨er, at_, hp, rfl⟩⟩
      · skip
        obtain ⟨n', l', A, c, rfl, rfl, hl⟩ := hv.plc
        have hm3 := blk_lt HX.out
        have HL := Lib.hid (hl.low (m := W.heap.size + 1) (by omega))
        clear hl hv hm3
        have HP4 := Lib.hid hp
        have HLE4 := Lib.hid hle
        clear hp hle
        have HG_ := Lib.hid (World.grownBy.trans HG.out hg)
        have HR_ := Lib.hid hr
        have HX_ := Lib.hid (HX.out.kept hg (by omega))
        clear hg hr HG HR HX
        have HG := HG_
        have HR := HR_
        have HX := HX_
        clear HG_ HR_ HX_
        have HPF : Hid ((setP) ts = .ok (⟨6, [], ⟨n', l'⟩, noB, noB⟩, us2)) := Lib.hid (by rw [setP, optE_t HW1.out, optE_f HW2.out, Ps.bd_ok HP4.out]; exact rfl)
        have HPUT : ∀ w', Put W.heap.size (W.heap.size + 1) w5 w' → Does (setP) (Leads W Rvl.d) W R ts (.returned (.agg #[.int .i64 6, .slice none 0 0, .string n', .slice A l'.length c, .string ⟨#[]⟩, .string ⟨#[]⟩])) w' := fun w' hput => ⟨hput.grown HG.out (Nat.le_refl _), .inl ⟨⟨6, [], ⟨n', l'⟩, noB, noB⟩, us2, _, HPF.out, rfl, Leads.rv_mk (by exact Rd.nil _ _ _ _) ((HL.out.put hput (Nat.le_refl _)).low (by omega)), HR.out.put hput hR, by have := HLT1.out; have := HLE4.out; first | omega | (simp at *; done) | (simp at *; omega)⟩⟩
        obtain ⟨lHX, cHX, fHX⟩ := HX.out.see
        go_wp2_with fail
        refine bodyPost_ret (v := .agg #[.int .i64 6, .slice none 0 0, .string n', .slice A l'.length c, .string ⟨#[]⟩, .string ⟨#[]⟩]) (by (simp only [results, Tryd.results67]); go_simp) rfl (HPUT _ ?_)
        repeat (first | with_reducible exact Put.refl _ _ _ | (with_reducible refine Put.set ?_ ?_ ?_ _; rotate_left; (simp only; omega); (simp only; omega)))
      · go_wp2_with fail
        exact ⟨rfl, World.grownBy.trans HG.out hg, .inr ⟨er, at_, (by rw [setP, optE_t HW1.out, optE_f HW2.out]; exact Ps.bd_err hp), rfl⟩⟩
  · skip
    have HW1 := Lib.hid hw
    clear hw
    have HG_ := Lib.hid (World.grownBy.trans HG.out hg)
    have HR_ := Lib.hid hr
    have HX_ := Lib.hid (HX.out.kept hg (by omega))
    clear hg hr HG HR HX
    have HG := HG_
    have HR := HR_
    have HX := HX_
    clear HG_ HR_ HX_
    go_wp2_with fail
    refine (opt_rd HR.out ⟨#[98, 111, 120]⟩).mono ?_
    rintro e w6 ⟨hg, ⟨hw, rfl, hr⟩ | ⟨hw, rfl, hr⟩⟩
    · skip
      have HW5 := Lib.hid hw
      have HLT5 := Lib.hid (isW_pos hw)
      clear hw
      have HG_ := Lib.hid (World.grownBy.trans HG.out hg)
      have HR_ := Lib.hid hr
      have HX_ := Lib.hid (HX.out.kept hg (by omega))
      clear hg hr HG HR HX
      have HG := HG_
      have HR := HR_
      have HX := HX_
      clear HG_ HR_ HX_
      go_wp2_with fail
      refine (oper_rd HR.out).mono ?_
      rintro e w7 ⟨hg, ⟨o, us2, v, hp, rfl, hv, hr, hle⟩ | ⟨er, at_, hp, rfl⟩⟩
      · skip
        obtain ⟨ob, on, om, ol, A, c, rfl, rfl, hl⟩ := hv.opr
        have hm3 := blk_lt HX.out
        have HL := Lib.hid (hl.low (m := W.heap.size + 1) (by omega))
        clear hl hv hm3
        have HP6 := Lib.hid hp
        have HLE6 := Lib.hid hle
        clear hp hle
        have HG_ := Lib.hid (World.grownBy.trans HG.out hg)
        have HR_ := Lib.hid hr
        have HX_ := Lib.hid (HX.out.kept hg (by omega))
        clear hg hr HG HR HX
        have HG := HG_
        have HR := HR_
        have HX := HX_
        clear HG_ HR_ HX_
        have HPF : Hid ((setP) ts = .ok (⟨8, [⟨ob, on, ⟨om, ol⟩⟩], ⟨noB, []⟩, noB, noB⟩, us2)) := Lib.hid (by rw [setP, optE_f HW1.out, optE_t HW5.out, Ps.bd_ok HP6.out]; exact rfl)
        have HPUT : ∀ w', Put W.heap.size (W.heap.size + 1) w7 w' → Does (setP) (Leads W Rvl.d) W R ts (.returned (.agg #[.int .i64 8, (.slice (some ⟨w7.heap.size, 0, none⟩) 1 1), .string ⟨#[]⟩, .slice none 0 0, .string ⟨#[]⟩, .string ⟨#[]⟩])) (w'.alloc (.cells #[.bool ob, .int .i64 on, .string om, .slice A ol.length c] 62)) := fun w' hput => by
          have hs9 : W.heap.size + 1 ≤ w7.heap.size := Nat.succ_le_of_lt (blk_lt HX.out)
          have hlit := Rd.lit (ok := fun j => W.heap.size + 1 ≤ j) w' (e := 62) (sz := 4) (cs := [.bool ob, .int .i64 on, .string om, .slice A ol.length c]) (ds := Opr.d ⟨ob, on, ⟨om, ol⟩⟩) (okp := fun j => W.heap.size + 1 ≤ j) ((opr_rds (b := ob) (n := on) (m := om) HL.out).step (fun k hk _ => hput.block k (.inr hk))) rfl (fun j hj => by have := hput.size; omega) (fun j hj => hj)
          rw [hput.size] at hlit
          exact ⟨grown_alloc (hput.grown HG.out (Nat.le_refl _)) _, .inl ⟨⟨8, [⟨ob, on, ⟨om, ol⟩⟩], ⟨noB, []⟩, noB, noB⟩, us2, _, HPF.out, rfl, Leads.rv_mk (hlit.low (by omega)) (by exact Rd.nil _ _ _ _), (HR.out.put hput hR).below (bel_one (HR.out.put hput hR).lt _) (by omega), by have := HLT5.out; have := HLE6.out; first | omega | (simp at *; done) | (simp at *; omega)⟩⟩
        obtain ⟨lHX, cHX, fHX⟩ := HX.out.see
        go_wp2_with fail
        refine bodyPost_ret (v := .agg #[.int .i64 8, (.slice (some ⟨w7.heap.size, 0, none⟩) 1 1), .string ⟨#[]⟩, .slice none 0 0, .string ⟨#[]⟩, .string ⟨#[]⟩]) (by (simp only [results, Tryd.results67]); go_simp) rfl (HPUT _ ?_)
        repeat (first | with_reducible exact Put.refl _ _ _ | (with_reducible refine Put.set ?_ ?_ ?_ _; rotate_left; (simp only; omega); (simp only; omega)))
      · go_wp2_with fail
        exact ⟨rfl, World.grownBy.trans HG.out hg, .inr ⟨er, at_, (by rw [setP, optE_f HW1.out, optE_t HW5.out]; exact Ps.bd_err hp), rfl⟩⟩
    · skip
      have HW5 := Lib.hid hw
      clear hw
      have HG_ := Lib.hid (World.grownBy.trans HG.out hg)
      have HR_ := Lib.hid hr
      have HX_ := Lib.hid (HX.out.kept hg (by omega))
      clear hg hr HG HR HX
      have HG := HG_
      have HR := HR_
      have HX := HX_
      clear HG_ HR_ HX_
      go_wp2_with fail
      refine (opt_rd HR.out ⟨#[119, 97, 105, 116]⟩).mono ?_
      rintro e w8 ⟨hg, ⟨hw, rfl, hr⟩ | ⟨hw, rfl, hr⟩⟩
      · skip
        have HW7 := Lib.hid hw
        have HLT7 := Lib.hid (isW_pos hw)
        clear hw
        have HG_ := Lib.hid (World.grownBy.trans HG.out hg)
        have HR_ := Lib.hid hr
        have HX_ := Lib.hid (HX.out.kept hg (by omega))
        clear hg hr HG HR HX
        have HG := HG_
        have HR := HR_
        have HX := HX_
        clear HG_ HR_ HX_
        go_wp2_with fail
        refine (oper_rd HR.out).mono ?_
        rintro e w9 ⟨hg, ⟨o, us2, v, hp, rfl, hv, hr, hle⟩ | ⟨er, at_, hp, rfl⟩⟩
        · skip
          obtain ⟨ob, on, om, ol, A, c, rfl, rfl, hl⟩ := hv.opr
          have hm3 := blk_lt HX.out
          have HL := Lib.hid (hl.low (m := W.heap.size + 1) (by omega))
          clear hl hv hm3
          have HP8 := Lib.hid hp
          have HLE8 := Lib.hid hle
          clear hp hle
          have HG_ := Lib.hid (World.grownBy.trans HG.out hg)
          have HR_ := Lib.hid hr
          have HX_ := Lib.hid (HX.out.kept hg (by omega))
          clear hg hr HG HR HX
          have HG := HG_
          have HR := HR_
          have HX := HX_
          clear HG_ HR_ HX_
          have HPF : Hid ((setP) ts = .ok (⟨15, [⟨ob, on, ⟨om, ol⟩⟩], ⟨noB, []⟩, noB, noB⟩, us2)) := Lib.hid (by rw [setP, optE_f HW1.out, optE_f HW5.out, optE_t HW7.out, Ps.bd_ok HP8.out]; exact rfl)
          have HPUT : ∀ w', Put W.heap.size (W.heap.size + 1) w9 w' → Does (setP) (Leads W Rvl.d) W R ts (.returned (.agg #[.int .i64 15, (.slice (some ⟨w9.heap.size, 0, none⟩) 1 1), .string ⟨#[]⟩, .slice none 0 0, .string ⟨#[]⟩, .string ⟨#[]⟩])) (w'.alloc (.cells #[.bool ob, .int .i64 on, .string om, .slice A ol.length c] 62)) := fun w' hput => by
            have hs9 : W.heap.size + 1 ≤ w9.heap.size := Nat.succ_le_of_lt (blk_lt HX.out)
            have hlit := Rd.lit (ok := fun j => W.heap.size + 1 ≤ j) w' (e := 62) (sz := 4) (cs := [.bool ob, .int .i64 on, .string om, .slice A ol.length c]) (ds := Opr.d ⟨ob, on, ⟨om, ol⟩⟩) (okp := fun j => W.heap.size + 1 ≤ j) ((opr_rds (b := ob) (n := on) (m := om) HL.out).step (fun k hk _ => hput.block k (.inr hk))) rfl (fun j hj => by have := hput.size; omega) (fun j hj => hj)
            rw [hput.size] at hlit
            exact ⟨grown_alloc (hput.grown HG.out (Nat.le_refl _)) _, .inl ⟨⟨15, [⟨ob, on, ⟨om, ol⟩⟩], ⟨noB, []⟩, noB, noB⟩, us2, _, HPF.out, rfl, Leads.rv_mk (hlit.low (by omega)) (by exact Rd.nil _ _ _ _), (HR.out.put hput hR).below (bel_one (HR.out.put hput hR).lt _) (by omega), by have := HLT7.out; have := HLE8.out; first | omega | (simp at *; done) | (simp at *; omega)⟩⟩
          obtain ⟨lHX, cHX, fHX⟩ := HX.out.see
          go_wp2_with fail
          refine bodyPost_ret (v := .agg #[.int .i64 15, (.slice (some ⟨w9.heap.size, 0, none⟩) 1 1), .string ⟨#[]⟩, .slice none 0 0, .string ⟨#[]⟩, .string ⟨#[]⟩]) (by (simp only [results, Tryd.results67]); go_simp) rfl (HPUT _ ?_)
          repeat (first | with_reducible exact Put.refl _ _ _ | (with_reducible refine Put.set ?_ ?_ ?_ _; rotate_left; (simp only; omega); (simp only; omega)))
        · go_wp2_with fail
          exact ⟨rfl, World.grownBy.trans HG.out hg, .inr ⟨er, at_, (by rw [setP, optE_f HW1.out, optE_f HW5.out, optE_t HW7.out]; exact Ps.bd_err hp), rfl⟩⟩
      · skip
        have HW7 := Lib.hid hw
        clear hw
        have HG_ := Lib.hid (World.grownBy.trans HG.out hg)
        have HR_ := Lib.hid hr
        have HX_ := Lib.hid (HX.out.kept hg (by omega))
        clear hg hr HG HR HX
        have HG := HG_
        have HR := HR_
        have HX := HX_
        clear HG_ HR_ HX_
        go_wp2_with fail
        refine (opt_rd HR.out ⟨#[117, 110, 98, 111, 120]⟩).mono ?_
        rintro e w10 ⟨hg, ⟨hw, rfl, hr⟩ | ⟨hw, rfl, hr⟩⟩
        · skip
          have HW9 := Lib.hid hw
          have HLT9 := Lib.hid (isW_pos hw)
          clear hw
          have HG_ := Lib.hid (World.grownBy.trans HG.out hg)
          have HR_ := Lib.hid hr
          have HX_ := Lib.hid (HX.out.kept hg (by omega))
          clear hg hr HG HR HX
          have HG := HG_
          have HR := HR_
          have HX := HX_
          clear HG_ HR_ HX_
          go_wp2_with fail
          refine (bare_rd HR.out).mono ?_
          rintro e w11 ⟨hg, ⟨p, us2, v, hp, rfl, hv, hr, hle⟩ | ⟨er, at_, hp, rfl⟩⟩
          · skip
            obtain ⟨n', l', A, c, rfl, rfl, hl⟩ := hv.plc
            have hm3 := blk_lt HX.out
            have HL := Lib.hid (hl.low (m := W.heap.size + 1) (by omega))
            clear hl hv hm3
            have HP10 := Lib.hid hp
            have HLE10 := Lib.hid hle
            clear hp hle
            have HG_ := Lib.hid (World.grownBy.trans HG.out hg)
            have HR_ := Lib.hid hr
            have HX_ := Lib.hid (HX.out.kept hg (by omega))
            clear hg hr HG HR HX
            have HG := HG_
            have HR := HR_
            have HX := HX_
            clear HG_ HR_ HX_
            have HPF : Hid ((setP) ts = .ok (⟨9, [], ⟨n', l'⟩, noB, noB⟩, us2)) := Lib.hid (by rw [setP, optE_f HW1.out, optE_f HW5.out, optE_f HW7.out, optE_t HW9.out, Ps.bd_ok HP10.out]; exact rfl)
            have HPUT : ∀ w', Put W.heap.size (W.heap.size + 1) w11 w' → Does (setP) (Leads W Rvl.d) W R ts (.returned (.agg #[.int .i64 9, .slice none 0 0, .string n', .slice A l'.length c, .string ⟨#[]⟩, .string ⟨#[]⟩])) w' := fun w' hput => ⟨hput.grown HG.out (Nat.le_refl _), .inl ⟨⟨9, [], ⟨n', l'⟩, noB, noB⟩, us2, _, HPF.out, rfl, Leads.rv_mk (by exact Rd.nil _ _ _ _) ((HL.out.put hput (Nat.le_refl _)).low (by omega)), HR.out.put hput hR, by have := HLT9.out; have := HLE10.out; first | omega | (simp at *; done) | (simp at *; omega)⟩⟩
            obtain ⟨lHX, cHX, fHX⟩ := HX.out.see
            go_wp2_with fail
            refine bodyPost_ret (v := .agg #[.int .i64 9, .slice none 0 0, .string n', .slice A l'.length c, .string ⟨#[]⟩, .string ⟨#[]⟩]) (by (simp only [results, Tryd.results67]); go_simp) rfl (HPUT _ ?_)
            repeat (first | with_reducible exact Put.refl _ _ _ | (with_reducible refine Put.set ?_ ?_ ?_ _; rotate_left; (simp only; omega); (simp only; omega)))
          · go_wp2_with fail
            exact ⟨rfl, World.grownBy.trans HG.out hg, .inr ⟨er, at_, (by rw [setP, optE_f HW1.out, optE_f HW5.out, optE_f HW7.out, optE_t HW9.out]; exact Ps.bd_err hp), rfl⟩⟩
        · skip
          have HW9 := Lib.hid hw
          clear hw
          have HG_ := Lib.hid (World.grownBy.trans HG.out hg)
          have HR_ := Lib.hid hr
          have HX_ := Lib.hid (HX.out.kept hg (by omega))
          clear hg hr HG HR HX
          have HG := HG_
          have HR := HR_
          have HX := HX_
          clear HG_ HR_ HX_
          go_wp2_with fail
          refine (opt_rd HR.out ⟨#[97, 119, 97, 105, 116]⟩).mono ?_
          rintro e w12 ⟨hg, ⟨hw, rfl, hr⟩ | ⟨hw, rfl, hr⟩⟩
          · skip
            have HW11 := Lib.hid hw
            have HLT11 := Lib.hid (isW_pos hw)
            clear hw
            have HG_ := Lib.hid (World.grownBy.trans HG.out hg)
            have HR_ := Lib.hid hr
            have HX_ := Lib.hid (HX.out.kept hg (by omega))
            clear hg hr HG HR HX
            have HG := HG_
            have HR := HR_
            have HX := HX_
            clear HG_ HR_ HX_
            go_wp2_with fail
            refine (bare_rd HR.out).mono ?_
            rintro e w13 ⟨hg, ⟨p, us2, v, hp, rfl, hv, hr, hle⟩ | ⟨er, at_, hp, rfl⟩⟩
            · skip
              obtain ⟨n', l', A, c, rfl, rfl, hl⟩ := hv.plc
              have hm3 := blk_lt HX.out
              have HL := Lib.hid (hl.low (m := W.heap.size + 1) (by omega))
              clear hl hv hm3
              have HP12 := Lib.hid hp
              have HLE12 := Lib.hid hle
              clear hp hle
              have HG_ := Lib.hid (World.grownBy.trans HG.out hg)
              have HR_ := Lib.hid hr
              have HX_ := Lib.hid (HX.out.kept hg (by omega))
              clear hg hr HG HR HX
              have HG := HG_
              have HR := HR_
              have HX := HX_
              clear HG_ HR_ HX_
              have HPF : Hid ((setP) ts = .ok (⟨13, [], ⟨n', l'⟩, noB, noB⟩, us2)) := Lib.hid (by rw [setP, optE_f HW1.out, optE_f HW5.out, optE_f HW7.out, optE_f HW9.out, optE_t HW11.out, Ps.bd_ok HP12.out]; exact rfl)
              have HPUT : ∀ w', Put W.heap.size (W.heap.size + 1) w13 w' → Does (setP) (Leads W Rvl.d) W R ts (.returned (.agg #[.int .i64 13, .slice none 0 0, .string n', .slice A l'.length c, .string ⟨#[]⟩, .string ⟨#[]⟩])) w' := fun w' hput => ⟨hput.grown HG.out (Nat.le_refl _), .inl ⟨⟨13, [], ⟨n', l'⟩, noB, noB⟩, us2, _, HPF.out, rfl, Leads.rv_mk (by exact Rd.nil _ _ _ _) ((HL.out.put hput (Nat.le_refl _)).low (by omega)), HR.out.put hput hR, by have := HLT11.out; have := HLE12.out; first | omega | (simp at *; done) | (simp at *; omega)⟩⟩
              obtain ⟨lHX, cHX, fHX⟩ := HX.out.see
              go_wp2_with fail
              refine bodyPost_ret (v := .agg #[.int .i64 13, .slice none 0 0, .string n', .slice A l'.length c, .string ⟨#[]⟩, .string ⟨#[]⟩]) (by (simp only [results, Tryd.results67]); go_simp) rfl (HPUT _ ?_)
              repeat (first | with_reducible exact Put.refl _ _ _ | (with_reducible refine Put.set ?_ ?_ ?_ _; rotate_left; (simp only; omega); (simp only; omega)))
            · go_wp2_with fail
              exact ⟨rfl, World.grownBy.trans HG.out hg, .inr ⟨er, at_, (by rw [setP, optE_f HW1.out, optE_f HW5.out, optE_f HW7.out, optE_f HW9.out, optE_t HW11.out]; exact Ps.bd_err hp), rfl⟩⟩
          · skip
            have HW11 := Lib.hid hw
            clear hw
            have HG_ := Lib.hid (World.grownBy.trans HG.out hg)
            have HR_ := Lib.hid hr
            have HX_ := Lib.hid (HX.out.kept hg (by omega))
            clear hg hr HG HR HX
            have HG := HG_
            have HR := HR_
            have HX := HX_
            clear HG_ HR_ HX_
            go_wp2_with fail
            refine (opt_rd HR.out ⟨#[112, 111, 108, 108]⟩).mono ?_
            rintro e w14 ⟨hg, ⟨hw, rfl, hr⟩ | ⟨hw, rfl, hr⟩⟩
            · skip
              have HW13 := Lib.hid hw
              have HLT13 := Lib.hid (isW_pos hw)
              clear hw
              have HG_ := Lib.hid (World.grownBy.trans HG.out hg)
              have HR_ := Lib.hid hr
              have HX_ := Lib.hid (HX.out.kept hg (by omega))
              clear hg hr HG HR HX
              have HG := HG_
              have HR := HR_
              have HX := HX_
              clear HG_ HR_ HX_
              go_wp2_with fail
              refine (bare_rd HR.out).mono ?_
              rintro e w15 ⟨hg, ⟨p, us2, v, hp, rfl, hv, hr, hle⟩ | ⟨er, at_, hp, rfl⟩⟩
              · skip
                obtain ⟨n', l', A, c, rfl, rfl, hl⟩ := hv.plc
                have hm3 := blk_lt HX.out
                have HL := Lib.hid (hl.low (m := W.heap.size + 1) (by omega))
                clear hl hv hm3
                have HP14 := Lib.hid hp
                have HLE14 := Lib.hid hle
                clear hp hle
                have HG_ := Lib.hid (World.grownBy.trans HG.out hg)
                have HR_ := Lib.hid hr
                have HX_ := Lib.hid (HX.out.kept hg (by omega))
                clear hg hr HG HR HX
                have HG := HG_
                have HR := HR_
                have HX := HX_
                clear HG_ HR_ HX_
                have HPF : Hid ((setP) ts = .ok (⟨14, [], ⟨n', l'⟩, noB, noB⟩, us2)) := Lib.hid (by rw [setP, optE_f HW1.out, optE_f HW5.out, optE_f HW7.out, optE_f HW9.out, optE_f HW11.out, optE_t HW13.out, Ps.bd_ok HP14.out]; exact rfl)
                have HPUT : ∀ w', Put W.heap.size (W.heap.size + 1) w15 w' → Does (setP) (Leads W Rvl.d) W R ts (.returned (.agg #[.int .i64 14, .slice none 0 0, .string n', .slice A l'.length c, .string ⟨#[]⟩, .string ⟨#[]⟩])) w' := fun w' hput => ⟨hput.grown HG.out (Nat.le_refl _), .inl ⟨⟨14, [], ⟨n', l'⟩, noB, noB⟩, us2, _, HPF.out, rfl, Leads.rv_mk (by exact Rd.nil _ _ _ _) ((HL.out.put hput (Nat.le_refl _)).low (by omega)), HR.out.put hput hR, by have := HLT13.out; have := HLE14.out; first | omega | (simp at *; done) | (simp at *; omega)⟩⟩
                obtain ⟨lHX, cHX, fHX⟩ := HX.out.see
                go_wp2_with fail
                refine bodyPost_ret (v := .agg #[.int .i64 14, .slice none 0 0, .string n', .slice A l'.length c, .string ⟨#[]⟩, .string ⟨#[]⟩]) (by (simp only [results, Tryd.results67]); go_simp) rfl (HPUT _ ?_)
                repeat (first | with_reducible exact Put.refl _ _ _ | (with_reducible refine Put.set ?_ ?_ ?_ _; rotate_left; (simp only; omega); (simp only; omega)))
              · go_wp2_with fail
                exact ⟨rfl, World.grownBy.trans HG.out hg, .inr ⟨er, at_, (by rw [setP, optE_f HW1.out, optE_f HW5.out, optE_f HW7.out, optE_f HW9.out, optE_f HW11.out, optE_t HW13.out]; exact Ps.bd_err hp), rfl⟩⟩
            · skip
              have HW13 := Lib.hid hw
              clear hw
              have HG_ := Lib.hid (World.grownBy.trans HG.out hg)
              have HR_ := Lib.hid hr
              have HX_ := Lib.hid (HX.out.kept hg (by omega))
              clear hg hr HG HR HX
              have HG := HG_
              have HR := HR_
              have HX := HX_
              clear HG_ HR_ HX_
              go_wp2_with fail
              refine (opt_rd HR.out ⟨#[115, 116, 97, 114, 116]⟩).mono ?_
              rintro e w16 ⟨hg, ⟨hw, rfl, hr⟩ | ⟨hw, rfl, hr⟩⟩
              · skip
                have HW15 := Lib.hid hw
                have HLT15 := Lib.hid (isW_pos hw)
                clear hw
                have HG_ := Lib.hid (World.grownBy.trans HG.out hg)
                have HR_ := Lib.hid hr
                have HX_ := Lib.hid (HX.out.kept hg (by omega))
                clear hg hr HG HR HX
                have HG := HG_
                have HR := HR_
                have HX := HX_
                clear HG_ HR_ HX_
                go_wp2_with fail
                refine (name_rd HR.out false).mono ?_
                rintro e w17 ⟨hg, ⟨n, us, v, hp, rfl, rfl, hr, hle⟩ | ⟨er, at_, hp, rfl⟩⟩
                · skip
                  have HP16 := Lib.hid hp
                  have HLE16 := Lib.hid hle
                  clear hp hle
                  have HG_ := Lib.hid (World.grownBy.trans HG.out hg)
                  have HR_ := Lib.hid hr
                  have HX_ := Lib.hid (HX.out.kept hg (by omega))
                  clear hg hr HG HR HX
                  have HG := HG_
                  have HR := HR_
                  have HX := HX_
                  clear HG_ HR_ HX_
                  have hlm : W.heap.size < w17.heap.size := blk_lt HX.out
                  have HG_ := Lib.hid (grown_alloc HG.out (.cells #[.int .i64 12, .slice none 0 0, .string ⟨#[]⟩, .slice none 0 0, .string n, .string ⟨#[]⟩] 60))
                  have HR_ := Lib.hid (HR.out.below (bel_one HR.out.lt (.cells #[.int .i64 12, .slice none 0 0, .string ⟨#[]⟩, .slice none 0 0, .string n, .string ⟨#[]⟩] 60)) (by omega))
                  have HX_ := Lib.hid (HX.out.alloc (.cells #[.int .i64 12, .slice none 0 0, .string ⟨#[]⟩, .slice none 0 0, .string n, .string ⟨#[]⟩] 60))
                  have HY_ : Hid (Bx 60 (w17.alloc (.cells #[.int .i64 12, .slice none 0 0, .string ⟨#[]⟩, .slice none 0 0, .string n, .string ⟨#[]⟩] 60)) w17.heap.size #[.int .i64 12, .slice none 0 0, .string ⟨#[]⟩, .slice none 0 0, .string n, .string ⟨#[]⟩]) := Lib.hid (.newAt rfl)
                  clear HG HR HX
                  have HG := HG_
                  have HR := HR_
                  have HX := HX_
                  clear HG_ HR_ HX_
                  have HY := HY_
                  clear HY_
                  go_wp2_with fail
                  generalize w17.alloc (.cells #[.int .i64 12, .slice none 0 0, .string ⟨#[]⟩, .slice none 0 0, .string n, .string ⟨#[]⟩] 60) = w18 at *
                  generalize w17.heap.size = m at *
                  refine (args_rd HR.out).mono ?_
                  rintro e w19 ⟨hg, ⟨l, us2, v, hp, rfl, hv, hr, hle⟩ | ⟨er, at_, hp, rfl⟩⟩
                  · skip
                    obtain ⟨A, c, rfl⟩ := hv.slice
                    have hm3 := blk_lt HY.out
                    have HL := Lib.hid (hv.low (m := m + 1) (by omega))
                    clear hv hm3
                    have HP17 := Lib.hid hp
                    have HLE17 := Lib.hid hle
                    clear hp hle
                    have HG_ := Lib.hid (World.grownBy.trans HG.out hg)
                    have HR_ := Lib.hid hr
                    have HX_ := Lib.hid (HX.out.kept hg (by omega))
                    have HY_ := Lib.hid (HY.out.kept hg (by omega))
                    clear hg hr HG HR HX HY
                    have HG := HG_
                    have HR := HR_
                    have HX := HX_
                    have HY := HY_
                    clear HG_ HR_ HX_ HY_
                    have HPF : Hid ((setP) ts = .ok (⟨12, l, ⟨noB, []⟩, n, noB⟩, us2)) := Lib.hid (by rw [setP, optE_f HW1.out, optE_f HW5.out, optE_f HW7.out, optE_f HW9.out, optE_f HW11.out, optE_f HW13.out, optE_t HW15.out, Ps.bd_ok HP16.out, Ps.bd_ok HP17.out]; exact rfl)
                    have HPUT : ∀ w', Put W.heap.size (m + 1) w19 w' → Does (setP) (Leads W Rvl.d) W R ts (.returned (.agg #[.int .i64 12, .slice A (l.map Opr.d).length c, .string ⟨#[]⟩, .slice none 0 0, .string n, .string ⟨#[]⟩])) w' := fun w' hput => ⟨hput.grown HG.out (Nat.le_refl _), .inl ⟨⟨12, l, ⟨noB, []⟩, n, noB⟩, us2, _, HPF.out, rfl, Leads.rv_mk ((HL.out.put hput (Nat.le_refl _)).low (by omega)) (by exact Rd.nil _ _ _ _), HR.out.put hput hR, by have := HLT15.out; have := HLE16.out; have := HLE17.out; first | omega | (simp at *; done) | (simp at *; omega)⟩⟩
                    obtain ⟨lHX, cHX, fHX⟩ := HX.out.see
                    obtain ⟨lHY, cHY, fHY⟩ := HY.out.see
                    have hne01 : (W.heap.size = m) = False := eq_false (by omega)
                    have hne10 : (m = W.heap.size) = False := eq_false (by omega)
                    go_wp2_with fail
                    refine bodyPost_ret (v := .agg #[.int .i64 12, .slice A (l.map Opr.d).length c, .string ⟨#[]⟩, .slice none 0 0, .string n, .string ⟨#[]⟩]) (by (simp only [results, Tryd.results67]); go_simp) rfl (HPUT _ ?_)
                    repeat (first | with_reducible exact Put.refl _ _ _ | (with_reducible refine Put.set ?_ ?_ ?_ _; rotate_left; (simp only; omega); (simp only; omega)))
                  · go_wp2_with fail
                    exact ⟨rfl, World.grownBy.trans HG.out hg, .inr ⟨er, at_, (by rw [setP, optE_f HW1.out, optE_f HW5.out, optE_f HW7.out, optE_f HW9.out, optE_f HW11.out, optE_f HW13.out, optE_t HW15.out, Ps.bd_ok HP16.out]; exact Ps.bd_err hp), rfl⟩⟩
                · go_wp2_with fail
                  exact ⟨rfl, World.grownBy.trans HG.out hg, .inr ⟨er, at_, (by rw [setP, optE_f HW1.out, optE_f HW5.out, optE_f HW7.out, optE_f HW9.out, optE_f HW11.out, optE_f HW13.out, optE_t HW15.out]; exact Ps.bd_err hp), rfl⟩⟩
              · skip
                have HW15 := Lib.hid hw
                clear hw
                have HG_ := Lib.hid (World.grownBy.trans HG.out hg)
                have HR_ := Lib.hid hr
                have HX_ := Lib.hid (HX.out.kept hg (by omega))
                clear hg hr HG HR HX
                have HG := HG_
                have HR := HR_
                have HX := HX_
                clear HG_ HR_ HX_
                go_wp2_with fail
                refine (named_rd HR.out true).mono ?_
                rintro e w20 ⟨rfl, hb⟩
                have HG_ := Lib.hid (grown_then HG.out hb HG.out.size)
                have HR_ := Lib.hid (HR.out.below hb HR.out.lt)
                have HX_ := Lib.hid (HX.out.below hb)
                clear hb HG HR HX
                have HG := HG_
                have HR := HR_
                have HX := HX_
                clear HG_ HR_ HX_
                cases hn : namedB true (hd (ts)) with
                | true =>
                  have HN := Lib.hid hn
                  clear hn
                  go_wp2_with fail
                  refine (made_rd HR.out).mono ?_
                  rintro e w21 ⟨hg, ⟨r, us2, v, hp, rfl, hv, hr, hle⟩ | ⟨er, at_, hp, rfl⟩⟩
                  · skip
                    obtain ⟨k, ops, pn, pl, n, vr, A, c, A2, c2, rfl, rfl, hl, hl2⟩ := hv.rv
                    have hm3 := blk_lt HX.out
                    have HL := Lib.hid (hl.low (m := W.heap.size + 1) (by omega))
                    have HL2 := Lib.hid (hl2.low (m := W.heap.size + 1) (by omega))
                    clear hl hl2 hv hm3
                    have HP18 := Lib.hid hp
                    have HLE18 := Lib.hid hle
                    clear hp hle
                    have HG_ := Lib.hid (World.grownBy.trans HG.out hg)
                    have HR_ := Lib.hid hr
                    have HX_ := Lib.hid (HX.out.kept hg (by omega))
                    clear hg hr HG HR HX
                    have HG := HG_
                    have HR := HR_
                    have HX := HX_
                    clear HG_ HR_ HX_
                    have HPF : Hid ((setP) ts = .ok (⟨k, ops, ⟨pn, pl⟩, n, vr⟩, us2)) := Lib.hid (by rw [setP, optE_f HW1.out, optE_f HW5.out, optE_f HW7.out, optE_f HW9.out, optE_f HW11.out, optE_f HW13.out, optE_f HW15.out, greatE_t HN.out]; exact HP18.out)
                    have HPUT : ∀ w', Put W.heap.size (W.heap.size + 1) w21 w' → Does (setP) (Leads W Rvl.d) W R ts (.returned (.agg #[.int .i64 k, .slice A ops.length c, .string pn, .slice A2 pl.length c2, .string n, .string vr])) w' := fun w' hput => ⟨hput.grown HG.out (Nat.le_refl _), .inl ⟨⟨k, ops, ⟨pn, pl⟩, n, vr⟩, us2, _, HPF.out, rfl, Leads.rv_mk ((HL.out.put hput (Nat.le_refl _)).low (by omega)) ((HL2.out.put hput (Nat.le_refl _)).low (by omega)), HR.out.put hput hR, by have := HLE18.out; first | omega | (simp at *; done) | (simp at *; omega)⟩⟩
                    obtain ⟨lHX, cHX, fHX⟩ := HX.out.see
                    go_wp2_with fail
                    refine bodyPost_ret (v := .agg #[.int .i64 k, .slice A ops.length c, .string pn, .slice A2 pl.length c2, .string n, .string vr]) (by (simp only [results, Tryd.results67]); go_simp) rfl (HPUT _ ?_)
                    repeat (first | with_reducible exact Put.refl _ _ _ | (with_reducible refine Put.set ?_ ?_ ?_ _; rotate_left; (simp only; omega); (simp only; omega)))
                  · go_wp2_with fail
                    exact ⟨rfl, World.grownBy.trans HG.out hg, .inr ⟨er, at_, (by rw [setP, optE_f HW1.out, optE_f HW5.out, optE_f HW7.out, optE_f HW9.out, optE_f HW11.out, optE_f HW13.out, optE_f HW15.out, greatE_t HN.out]; exact hp), rfl⟩⟩
                | false =>
                  have HN := Lib.hid hn
                  clear hn
                  go_wp2_with fail
                  refine (oper_rd HR.out).mono ?_
                  rintro e w22 ⟨hg, ⟨o, us2, v, hp, rfl, hv, hr, hle⟩ | ⟨er, at_, hp, rfl⟩⟩
                  · skip
                    obtain ⟨ob, on, om, ol, A, c, rfl, rfl, hl⟩ := hv.opr
                    have hm3 := blk_lt HX.out
                    have HL := Lib.hid (hl.low (m := W.heap.size + 1) (by omega))
                    clear hl hv hm3
                    have HP19 := Lib.hid hp
                    have HLE19 := Lib.hid hle
                    clear hp hle
                    have HG_ := Lib.hid (World.grownBy.trans HG.out hg)
                    have HR_ := Lib.hid hr
                    have HX_ := Lib.hid (HX.out.kept hg (by omega))
                    clear hg hr HG HR HX
                    have HG := HG_
                    have HR := HR_
                    have HX := HX_
                    clear HG_ HR_ HX_
                    have hs9 : W.heap.size + 1 ≤ w22.heap.size := Nat.succ_le_of_lt (blk_lt HX.out)
                    have HO : Hid (Rd ((w22.alloc (.cells #[.bool ob, .int .i64 on, .string om, .slice A ol.length c] 62)).alloc (.cells #[.int .i64 0, .slice (some ⟨w22.heap.size, 0, none⟩) 1 1, .string ⟨#[]⟩, .slice none 0 0, .string ⟨#[]⟩, .string ⟨#[]⟩] 60)) (fun j => W.heap.size + 1 ≤ j ∧ j ≠ w22.heap.size + 1) (.slice (some ⟨w22.heap.size, 0, none⟩) 1 1) (.row 62 4 [Opr.d ⟨ob, on, ⟨om, ol⟩⟩])) := Lib.hid (((Rd.lit (ok := fun j => W.heap.size + 1 ≤ j) w22 (e := 62) (sz := 4) (cs := [.bool ob, .int .i64 on, .string om, .slice A ol.length c]) (ds := Opr.d ⟨ob, on, ⟨om, ol⟩⟩) (okp := fun j => W.heap.size + 1 ≤ j) (opr_rds (b := ob) (n := on) (m := om) HL.out) rfl (fun j hj => by omega) (fun j hj => hj)).bound.bel ((Below.refl _ _).alloc (Nat.le_refl _) (.cells #[.int .i64 0, .slice (some ⟨w22.heap.size, 0, none⟩) 1 1, .string ⟨#[]⟩, .slice none 0 0, .string ⟨#[]⟩, .string ⟨#[]⟩] 60))).mono (fun k hk => ⟨hk.1, by have := hk.2; simp at this; omega⟩))
                    have HG_ := Lib.hid (grown_alloc (grown_alloc HG.out (.cells #[.bool ob, .int .i64 on, .string om, .slice A ol.length c] 62)) (.cells #[.int .i64 0, .slice (some ⟨w22.heap.size, 0, none⟩) 1 1, .string ⟨#[]⟩, .slice none 0 0, .string ⟨#[]⟩, .string ⟨#[]⟩] 60))
                    have HR_ := Lib.hid ((HR.out.below (bel_one HR.out.lt (.cells #[.bool ob, .int .i64 on, .string om, .slice A ol.length c] 62)) (by omega)).below (bel_one (HR.out.below (bel_one HR.out.lt (.cells #[.bool ob, .int .i64 on, .string om, .slice A ol.length c] 62)) (by omega)).lt (.cells #[.int .i64 0, .slice (some ⟨w22.heap.size, 0, none⟩) 1 1, .string ⟨#[]⟩, .slice none 0 0, .string ⟨#[]⟩, .string ⟨#[]⟩] 60)) (by omega))
                    have HX_ := Lib.hid ((HX.out.alloc (.cells #[.bool ob, .int .i64 on, .string om, .slice A ol.length c] 62)).alloc (.cells #[.int .i64 0, .slice (some ⟨w22.heap.size, 0, none⟩) 1 1, .string ⟨#[]⟩, .slice none 0 0, .string ⟨#[]⟩, .string ⟨#[]⟩] 60))
                    have HY : Hid (Bx 60 ((w22.alloc (.cells #[.bool ob, .int .i64 on, .string om, .slice A ol.length c] 62)).alloc (.cells #[.int .i64 0, .slice (some ⟨w22.heap.size, 0, none⟩) 1 1, .string ⟨#[]⟩, .slice none 0 0, .string ⟨#[]⟩, .string ⟨#[]⟩] 60)) (w22.heap.size + 1) #[.int .i64 0, .slice (some ⟨w22.heap.size, 0, none⟩) 1 1, .string ⟨#[]⟩, .slice none 0 0, .string ⟨#[]⟩, .string ⟨#[]⟩]) := Lib.hid (.newAt (by simp))
                    clear HL
                    clear HG HR HX
                    have HG := HG_
                    have HR := HR_
                    have HX := HX_
                    clear HG_ HR_ HX_
                    go_wp2_with fail
                    generalize ((w22.alloc (.cells #[.bool ob, .int .i64 on, .string om, .slice A ol.length c] 62)).alloc (.cells #[.int .i64 0, .slice (some ⟨w22.heap.size, 0, none⟩) 1 1, .string ⟨#[]⟩, .slice none 0 0, .string ⟨#[]⟩, .string ⟨#[]⟩] 60)) = w23 at *
                    obtain ⟨z, hz⟩ : ∃ z, z = w22.heap.size := ⟨_, rfl⟩
                    rw [← hz] at HO HY hs9 ⊢
                    clear hz
                    refine (sign_rd HR.out).mono ?_
                    rintro e w24 ⟨hg, ⟨k, hk5, hk0, hk1, rfl, hr⟩ | ⟨hk0, rfl, hr⟩⟩
                    · have HSG : Hid (∀ a, sgP a us2 = signE a (1 + k) us2.tail) := Lib.hid (fun a => sgP_t hk5 hk0 hk1)
                      have HLT9 := Lib.hid (isW_pos hk1)
                      clear hk0 hk1
                      have HG_ := Lib.hid (World.grownBy.trans HG.out hg)
                      have HR_ := Lib.hid hr
                      have HX_ := Lib.hid (HX.out.kept hg (by omega))
                      have HY_ := Lib.hid (HY.out.kept hg (by omega))
                      have HO_ := Lib.hid (HO.out.grown hg (fun k hk e => by injection e; have := hk.1; omega))
                      clear hg hr HG HR HX HY HO
                      have HG := HG_
                      have HR := HR_
                      have HX := HX_
                      have HY := HY_
                      have HO := HO_
                      clear HG_ HR_ HX_ HY_ HO_
                      obtain ⟨lHX, cHX, fHX⟩ := HX.out.see
                      obtain ⟨lHY, cHY, fHY⟩ := HY.out.see
                      have hne01 : (W.heap.size = z + 1) = False := eq_false (by omega)
                      have hne10 : (z + 1 = W.heap.size) = False := eq_false (by omega)
                      have HG_ := Lib.hid (grown_set HG.out (p := ⟨z + 1, 0, none⟩) (by simp only; omega) (.int .i64 (1 + k)))
                      have HR_ := Lib.hid (HR.out.far (p := ⟨z + 1, 0, none⟩) (by simp only; omega) (.int .i64 (1 + k)))
                      have HX_ := Lib.hid (HX.out.far (p := ⟨z + 1, 0, none⟩) (by simp only; omega) (.int .i64 (1 + k)))
                      have HY_ : Hid (Bx 60 (w24.setCell ⟨z + 1, 0, none⟩ (.int .i64 (1 + k))) (z + 1) #[.int .i64 (1 + k), .slice (some ⟨z, 0, none⟩) 1 1, .string ⟨#[]⟩, .slice none 0 0, .string ⟨#[]⟩, .string ⟨#[]⟩]) := Lib.hid (by have h := HY.out.set 0 (.int .i64 (1 + k)); simpa using h)
                      have HO_ := Lib.hid (HO.out.far (p := ⟨z + 1, 0, none⟩) (fun k hk => by have := hk.2; simp only; omega) (.int .i64 (1 + k)))
                      clear HG HR HX HY HO
                      have HG := HG_
                      have HR := HR_
                      have HX := HX_
                      have HY := HY_
                      have HO := HO_
                      clear HG_ HR_ HX_ HY_ HO_
                      go_wp2_with fail
                      clear lHX cHX fHX lHY cHY fHY hne01 hne10
                      generalize w24.setCell ⟨z + 1, 0, none⟩ (.int .i64 (1 + k)) = w90 at *
                      have HGd := Lib.hid (grown_then HG.out (bel_drew (Below.refl w90.heap.size w90)) HG.out.size)
                      have HRd := Lib.hid (HR.out.below (bel_drew (Below.refl w90.heap.size w90)) HR.out.lt)
                      have HXd := Lib.hid (HX.out.drew)
                      have HYd := Lib.hid (HY.out.drew)
                      have HOd := Lib.hid (HO.out.bel (bel_drew (Below.refl w90.heap.size w90)))
                      have hz9 : z + 1 < w90.heap.size := blk_lt HY.out
                      have hoz : ∀ k, (Value.slice (some ⟨z, 0, none⟩) 1 1).ownBlock = some k → k = z := fun k h => by cases h; rfl
                      refine start_ (n := 8) (S := fun w' => w'.cell? ⟨z + 1, 1, none⟩ = some (.slice (some ⟨z, 0, none⟩) 1 1)) (ds := [7]) #[false, false, false, false, false, false, false, false] (by kernel_rfl) rfl rfl (blk_cell HYd.out 1) (fun hHeld => ?_)
                      refine pure_ (i := 0) (N := some 77) (v := ?_) (a' := ?_) #[true, false, false, false, false, false, false, false] rfl rfl (by kernel_rfl) (fun _ _ _ h => h) (Or.inl ⟨by rfl, ?_⟩) ?_ ?_
                      rotate_left
                      · intro w'
                        go_simp
                        with_reducible rfl
                      rotate_left
                      · simp only [Act.put, List.setIfInBounds_toArray, List.set_cons_zero, List.set_cons_succ, i64_w, i32_w]
                        rfl
                      refine pure_ (i := 2) (N := some 79) (v := ?_) (a' := ?_) #[true, false, true, false, false, false, false, false] rfl rfl (by kernel_rfl) (fun _ _ _ h => h) (Or.inl ⟨by rfl, ?_⟩) ?_ ?_
                      rotate_left
                      · intro w'
                        go_simp
                        with_reducible rfl
                      rotate_left
                      · simp only [Act.put, List.setIfInBounds_toArray, List.set_cons_zero, List.set_cons_succ, i64_w, i32_w]
                        rfl
                      refine take_ (i := 1) (N := some 78) (v := ?_) (a' := ?_) #[true, true, true, false, false, false, false, false] rfl rfl (by kernel_rfl) (fun _ _ _ h => h) (Or.inl ⟨by rfl, ?_⟩) hHeld ?_ ?_
                      rotate_left
                      · intro w' s0
                        go_simp
                        with_reducible rfl
                      rotate_left
                      · simp only [Act.put, List.setIfInBounds_toArray, List.set_cons_zero, List.set_cons_succ, i64_w, i32_w]
                        rfl
                      refine one_ (i := 3) (N := some 80) #[true, true, true, true, false, false, false, false] rfl rfl (by kernel_rfl) (by decide) (fun K hK => ?_)
                      refine goes2_ Tryd.func58 (by kernel_rfl) rfl #[.pointer (some ⟨R, 0, none⟩)] (by rfl) rfl rfl (by simp only [List.map_toArray, List.map_cons, List.map_nil]; rfl) ?_
                      refine (oper_rd HRd.out).mono ?_
                      rintro e w91 ⟨hg, ⟨o2, us3, v, hp, rfl, hv, hr, hle⟩ | ⟨er, at_, hp, rfl⟩⟩
                      rotate_left
                      · refine .inr ⟨_, rfl, ?_⟩
                        go_wp2_with fail
                        exact ⟨rfl, World.grownBy.trans HGd.out hg, .inr ⟨er, at_, (by rw [setP, optE_f HW1.out, optE_f HW5.out, optE_f HW7.out, optE_f HW9.out, optE_f HW11.out, optE_f HW13.out, optE_f HW15.out, greatE_f HN.out, Ps.bd_ok HP19.out]; exact (HSG.out _).trans (Ps.bd_err hp)), rfl⟩⟩
                      obtain ⟨ob2, on2, om2, ol2, A2, c2, rfl, rfl, hl⟩ := hv.opr
                      refine .inl ⟨_, rfl, ?_⟩
                      have HG1 := Lib.hid (World.grownBy.trans HGd.out hg)
                      have HR1 := Lib.hid hr
                      have HX1 := Lib.hid (HXd.out.kept hg (by omega))
                      have HY1 := Lib.hid (HYd.out.kept hg (by omega))
                      have HO1 := Lib.hid (HOd.out.grown hg (fun k hk e => by injection e; have := hk.1; omega))
                      have HL2 := Lib.hid hl
                      have HP9 := Lib.hid hp
                      have HLE9 := Lib.hid hle
                      have hs91 : w90.heap.size ≤ w91.heap.size := hg.size
                      clear hg hr hv hl hp hle
                      refine hK.out _ _ (blk_cell HY1.out 1) (fun hHeld => ?_)
                      clear hK K
                      refine norm_ (a' := ?_) ?_ ?_
                      rotate_left
                      · show Act.put _ (some 80) _ = _
                        simp only [Act.put, List.setIfInBounds_toArray, List.set_cons_zero, List.set_cons_succ, i64_w, i32_w]
                        rfl
                      refine one_ (i := 4) (N := some 81) #[true, true, true, true, true, false, false, false] rfl rfl (by kernel_rfl) (by decide) (fun K hK => ?_)
                      refine value_ (w1 := ?_) (v := ?_) (by rfl) rfl ?_ ?_
                      rotate_left 2
                      · go_simp
                        constructor
                        · rfl
                        · rfl
                      refine hK.out _ _ (blk_cell (HY1.out.alloc _) 1) (fun hHeld => ?_)
                      clear hK K
                      refine norm_ (a' := ?_) ?_ ?_
                      rotate_left
                      · show Act.put _ (some 81) _ = _
                        simp only [Act.put, List.setIfInBounds_toArray, List.set_cons_zero, List.set_cons_succ, i64_w, i32_w]
                        rfl
                      refine one_ (i := 5) (N := some 82) #[true, true, true, true, true, true, false, false] rfl rfl (by kernel_rfl) (by decide) (fun K hK => ?_)
                      refine Rd.append_step (W := w91) (ok := fun j => W.heap.size + 1 ≤ j ∧ j ≠ z + 1) (okp := fun j => w90.heap.size ≤ j) (cs := [.bool ob2, .int .i64 on2, .string om2, .slice A2 ol2.length c2]) (ds := Opr.d ⟨ob2, on2, ⟨om2, ol2⟩⟩) (l := [Opr.d ⟨ob, on, ⟨om, ol⟩⟩]) (by rfl) (.tmp 78) (.tmp 81) 58 (.agg #[.bool false, .int .i64 0, .string ⟨#[]⟩, .slice none 0 0]) 56 rfl Tryd.underlying58 info_Oper rfl (by decide) (by decide) rfl rfl HO1.out (opr_rds (b := ob2) (n := on2) (m := om2) HL2.out) rfl (fun k hk => by omega) (fun k hk => ⟨by omega, fun e => by have := hoz _ e; omega⟩) (by simp [Value.oneCell']) (by simp) ?_
                      intro u5 w92 h5 hg5 hat5
                      obtain ⟨A5, c5, rfl⟩ : ∃ A c, u5 = .slice A 2 c := h5.slice
                      have HG2 := Lib.hid (grown_own HG1.out hg5 (fun k hk => by have := hoz _ hk; omega))
                      have HR2 := Lib.hid (HR1.out.grown hg5 (fun k hk => by have := hoz _ hk; omega))
                      have HX2 : Hid (Bx 60 w92 W.heap.size _) := Lib.hid ((hg5.block _ (blk_lt HX1.out) (fun e => by have := hoz _ e.symm; omega)).trans HX1.out)
                      have HY2 : Hid (Bx 60 w92 (z + 1) _) := Lib.hid ((hg5.block _ (blk_lt HY1.out) (fun e => by have := hoz _ e.symm; omega)).trans HY1.out)
                      have HO2 := Lib.hid h5
                      clear h5 hg5 hat5
                      refine hK.out _ _ (blk_cell HY2.out 1) (fun hHeld => ?_)
                      clear hK K
                      refine norm_ (a' := ?_) ?_ ?_
                      rotate_left
                      · show Act.put _ (some 82) _ = _
                        simp only [Act.put, List.setIfInBounds_toArray, List.set_cons_zero, List.set_cons_succ, i64_w, i32_w]
                        rfl
                      refine pure_ (i := 6) (N := some 83) (v := ?_) (a' := ?_) #[true, true, true, true, true, true, true, false] rfl rfl (by kernel_rfl) (fun _ _ _ h => h) (Or.inl ⟨by rfl, ?_⟩) ?_ ?_
                      rotate_left
                      · intro w'
                        go_simp
                        with_reducible rfl
                      rotate_left
                      · simp only [Act.put, List.setIfInBounds_toArray, List.set_cons_zero, List.set_cons_succ, i64_w, i32_w]
                        rfl
                      refine last_ (i := 7) (N := none) #[true, true, true, true, true, true, true, true] rfl rfl (by kernel_rfl) (by decide) (fun K hK => ?_)
                      have hfz := blk_frozen HY2.out 1
                      have hcz : w92.cell? ⟨z + 1, 1, none⟩ = some (.slice (some ⟨z, 0, none⟩) 1 1) := blk_cell HY2.out 1
                      refine skip_ (w1 := ?_) (by rfl) rfl ?_ ?_
                      rotate_left
                      · go_simp
                        rfl
                      refine hK.out _ _ ?_
                      clear hK K
                      refine done_ (by kernel_rfl) ?_
                      clear hHeld hfz hcz
                      have HG3 := Lib.hid (grown_set HG2.out (p := ⟨z + 1, 1, none⟩) (by simp only; omega) (.slice A5 2 c5))
                      have HR3 := Lib.hid (HR2.out.far (p := ⟨z + 1, 1, none⟩) (by simp only; omega) (.slice A5 2 c5))
                      have HX3 := Lib.hid (HX2.out.far (p := ⟨z + 1, 1, none⟩) (by simp only; omega) (.slice A5 2 c5))
                      have HY3 : Hid (Bx 60 (w92.setCell ⟨z + 1, 1, none⟩ (.slice A5 2 c5)) (z + 1) #[.int .i64 (1 + k), .slice A5 2 c5, .string ⟨#[]⟩, .slice none 0 0, .string ⟨#[]⟩, .string ⟨#[]⟩]) := Lib.hid (by have h := HY2.out.set 1 (.slice A5 2 c5); simpa using h)
                      have HO3 := Lib.hid (HO2.out.far (p := ⟨z + 1, 1, none⟩) (fun k hk => by have := hk.2; simp only; omega) (.slice A5 2 c5))
                      clear HG HR HX HY HO HGd HRd HXd HYd HOd HG1 HR1 HX1 HY1 HO1 HL2 HG2 HR2 HX2 HY2 HO2
                      have HG := HG3
                      have HR := HR3
                      have HX := HX3
                      have HY := HY3
                      have HO := HO3
                      clear HG3 HR3 HX3 HY3 HO3 hoz hz9 hs91 hk5
                      generalize (w92.setCell ⟨z + 1, 1, none⟩ (.slice A5 2 c5)) = w93 at *
                      have HPF : Hid ((setP) ts = .ok (⟨1 + k, [⟨ob, on, ⟨om, ol⟩⟩, ⟨ob2, on2, ⟨om2, ol2⟩⟩], ⟨noB, []⟩, noB, noB⟩, us3)) := Lib.hid (by rw [setP, optE_f HW1.out, optE_f HW5.out, optE_f HW7.out, optE_f HW9.out, optE_f HW11.out, optE_f HW13.out, optE_f HW15.out, greatE_f HN.out, Ps.bd_ok HP19.out]; exact (HSG.out _).trans (Ps.bd_ok HP9.out))
                      have HPUT : ∀ w', Put W.heap.size (W.heap.size + 1) w93 w' → Does (setP) (Leads W Rvl.d) W R ts (.returned (.agg #[.int .i64 (1 + k), .slice A5 2 c5, .string ⟨#[]⟩, .slice none 0 0, .string ⟨#[]⟩, .string ⟨#[]⟩])) w' := fun w' hput => ⟨hput.grown HG.out (Nat.le_refl _), .inl ⟨⟨1 + k, [⟨ob, on, ⟨om, ol⟩⟩, ⟨ob2, on2, ⟨om2, ol2⟩⟩], ⟨noB, []⟩, noB, noB⟩, us3, _, HPF.out, rfl, Leads.rv_mk ((HO.out.step (fun k hk _ => hput.block k (.inr hk.1))).mono (fun k hk => by have := hk.1; omega)) (by exact Rd.nil _ _ _ _), HR.out.put hput hR, by have := HLE19.out; have := HLT9.out; have := HLE9.out; first | omega | (simp at *; done) | (simp at *; omega)⟩⟩
                      obtain ⟨lHX, cHX, fHX⟩ := HX.out.see
                      obtain ⟨lHY, cHY, fHY⟩ := HY.out.see
                      have hne01 : (W.heap.size = z + 1) = False := eq_false (by omega)
                      have hne10 : (z + 1 = W.heap.size) = False := eq_false (by omega)
                      go_wp2_with fail
                      refine bodyPost_ret (v := .agg #[.int .i64 (1 + k), .slice A5 2 c5, .string ⟨#[]⟩, .slice none 0 0, .string ⟨#[]⟩, .string ⟨#[]⟩]) (by (simp only [results, Tryd.results67]); go_simp) rfl (HPUT _ ?_)
                      repeat (first | with_reducible exact Put.refl _ _ _ | (with_reducible refine Put.set ?_ ?_ ?_ _; rotate_left; (simp only; omega); (simp only; omega)))
                    · have HSG : Hid (∀ a, sgP a us2 = .ok (⟨0, [a], .zero, noB, noB⟩, us2)) := Lib.hid (fun a => sgP_f hk0)
                      clear hk0
                      have HG_ := Lib.hid (World.grownBy.trans HG.out hg)
                      have HR_ := Lib.hid hr
                      have HX_ := Lib.hid (HX.out.kept hg (by omega))
                      have HY_ := Lib.hid (HY.out.kept hg (by omega))
                      have HO_ := Lib.hid (HO.out.grown hg (fun k hk e => by injection e; have := hk.1; omega))
                      clear hg hr HG HR HX HY HO
                      have HG := HG_
                      have HR := HR_
                      have HX := HX_
                      have HY := HY_
                      have HO := HO_
                      clear HG_ HR_ HX_ HY_ HO_
                      have HPF : Hid ((setP) ts = .ok (⟨0, [⟨ob, on, ⟨om, ol⟩⟩], ⟨noB, []⟩, noB, noB⟩, us2)) := Lib.hid (by rw [setP, optE_f HW1.out, optE_f HW5.out, optE_f HW7.out, optE_f HW9.out, optE_f HW11.out, optE_f HW13.out, optE_f HW15.out, greatE_f HN.out, Ps.bd_ok HP19.out]; exact HSG.out _)
                      have HPUT : ∀ w', Put W.heap.size (W.heap.size + 1) w24 w' → Does (setP) (Leads W Rvl.d) W R ts (.returned (.agg #[.int .i64 0, .slice (some ⟨z, 0, none⟩) 1 1, .string ⟨#[]⟩, .slice none 0 0, .string ⟨#[]⟩, .string ⟨#[]⟩])) w' := fun w' hput => ⟨hput.grown HG.out (Nat.le_refl _), .inl ⟨⟨0, [⟨ob, on, ⟨om, ol⟩⟩], ⟨noB, []⟩, noB, noB⟩, us2, _, HPF.out, rfl, Leads.rv_mk ((HO.out.step (fun k hk _ => hput.block k (.inr hk.1))).mono (fun k hk => by have := hk.1; omega)) (by exact Rd.nil _ _ _ _), HR.out.put hput hR, by have := HLE19.out; first | omega | (simp at *; done) | (simp at *; omega)⟩⟩
                      obtain ⟨lHX, cHX, fHX⟩ := HX.out.see
                      obtain ⟨lHY, cHY, fHY⟩ := HY.out.see
                      have hne01 : (W.heap.size = z + 1) = False := eq_false (by omega)
                      have hne10 : (z + 1 = W.heap.size) = False := eq_false (by omega)
                      go_wp2_with fail
                      refine bodyPost_ret (v := .agg #[.int .i64 0, .slice (some ⟨z, 0, none⟩) 1 1, .string ⟨#[]⟩, .slice none 0 0, .string ⟨#[]⟩, .string ⟨#[]⟩]) (by (simp only [results, Tryd.results67]); go_simp) rfl (HPUT _ ?_)
                      repeat (first | with_reducible exact Put.refl _ _ _ | (with_reducible refine Put.set ?_ ?_ ?_ _; rotate_left; (simp only; omega); (simp only; omega)))
                  · go_wp2_with fail
                    exact ⟨rfl, World.grownBy.trans HG.out hg, .inr ⟨er, at_, (by rw [setP, optE_f HW1.out, optE_f HW5.out, optE_f HW7.out, optE_f HW9.out, optE_f HW11.out, optE_f HW13.out, optE_f HW15.out, greatE_f HN.out]; exact Ps.bd_err hp), rfl⟩⟩
end Go.Proofs.YtjoiflokekebkaaDoor
