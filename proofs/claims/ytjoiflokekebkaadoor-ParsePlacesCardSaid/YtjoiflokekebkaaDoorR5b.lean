/- Walks: a variant, a name as a place. -/
import Derived.Test.YtjoiflokekebkaaDoorR5
set_option linter.all false
namespace Go.Proofs.YtjoiflokekebkaaDoor
open Go.RowKit

set_option maxRecDepth 100000 in
set_option maxHeartbeats 2000000 in
theorem variant_rd {W : World} {R : Nat} {ts : List Tk} (h : Rdr W R ts) : Calls Tryd.prog 36 #[.pointer (some ⟨R, 0, none⟩)] W fun e W' => Does (variantP) (Leads W Fld.d) W R ts e W' := by
  have hR := h.lt
  have hlen := h.ok.len
  have HR := Lib.hid (h.below ((Below.refl (R + 1) W).alloc (by omega) (.cells #[.string ⟨#[]⟩, .int .i64 0, .string ⟨#[]⟩, .slice none 0 0] 99)) (by omega))
  have HG := Lib.hid (grown_alloc (World.grownBy.refl W (some R)) (.cells #[.string ⟨#[]⟩, .int .i64 0, .string ⟨#[]⟩, .slice none 0 0] 99))
  have HX := Lib.hid (.newAt rfl : Bx 99 (W.alloc (.cells #[.string ⟨#[]⟩, .int .i64 0, .string ⟨#[]⟩, .slice none 0 0] 99)) W.heap.size #[.string ⟨#[]⟩, .int .i64 0, .string ⟨#[]⟩, .slice none 0 0])
  clear h
  go_enter Tryd.func36, Tryd.ntmps36
  go_wp2_with fail
  generalize (W.alloc (.cells #[.string ⟨#[]⟩, .int .i64 0, .string ⟨#[]⟩, .slice none 0 0] 99)) = w1 at *
  refine (name_rd HR.out true).mono ?_
  rintro e w2 ⟨hg, ⟨x, us, v, hp, rfl, rfl, hr, hle⟩ | ⟨er, at_, hp, rfl⟩⟩
  · skip
    have HP1 := Lib.hid hp
    have HLE1 := Lib.hid hle
    clear hp hle
    have HG_ := Lib.hid (World.grownBy.trans HG.out hg)
    have HR_ := Lib.hid hr
    have HX_ := Lib.hid (HX.out.kept hg (by omega))
    clear hg hr HG HR HX
    have HG := HG_
    have HR := HR_
    have HX := HX_
    clear HG_ HR_ HX_
    have hlm : W.heap.size < w2.heap.size := blk_lt HX.out
    have HG_ := Lib.hid (grown_alloc HG.out (.cells #[.string x, .int .i64 0, .string ⟨#[]⟩, .slice none 0 0] 99))
    have HR_ := Lib.hid (HR.out.below (bel_one HR.out.lt (.cells #[.string x, .int .i64 0, .string ⟨#[]⟩, .slice none 0 0] 99)) (by omega))
    have HX_ := Lib.hid (HX.out.alloc (.cells #[.string x, .int .i64 0, .string ⟨#[]⟩, .slice none 0 0] 99))
    have HY_ : Hid (Bx 99 (w2.alloc (.cells #[.string x, .int .i64 0, .string ⟨#[]⟩, .slice none 0 0] 99)) w2.heap.size #[.string x, .int .i64 0, .string ⟨#[]⟩, .slice none 0 0]) := Lib.hid (.newAt rfl)
    clear HG HR HX
    have HG := HG_
    have HR := HR_
    have HX := HX_
    clear HG_ HR_ HX_
    have HY := HY_
    clear HY_
    go_wp2_with fail
    generalize w2.alloc (.cells #[.string x, .int .i64 0, .string ⟨#[]⟩, .slice none 0 0] 99) = w3 at *
    generalize w2.heap.size = m at *
    refine (opt_rd HR.out ⟨#[40]⟩).mono ?_
    rintro e w4 ⟨hg, ⟨hw, rfl, hr⟩ | ⟨hw, rfl, hr⟩⟩
    · skip
      have HW2 := Lib.hid hw
      have HLT2 := Lib.hid (isW_pos hw)
      clear hw
      have HG_ := Lib.hid (World.grownBy.trans HG.out hg)
      have HR_ := Lib.hid hr
      have HX_ := Lib.hid (HX.out.kept hg (by omega))
      have HY_ := Lib.hid (HY.out.kept hg (by omega))
      clear hg hr HG HR HX HY
      have HG := HG_
      have HR := HR_
      have HX := HX_
      have HY := HY_
      clear HG_ HR_ HX_ HY_
      go_wp2_with fail
      refine (ty_rd 61 0 (by omega) (by omega) _ _ _ HR.out).mono ?_
      rintro e w5 ⟨hg, ⟨t, us2, v, hp, rfl, hv, hr, hle⟩ | ⟨er, at_, hp, rfl⟩⟩
      · skip
        obtain ⟨k', n', l', A, c, rfl, rfl, hl⟩ := hv.ty
        have hm3 := blk_lt HY.out
        have HL := Lib.hid (hl.low (m := m + 1) (by omega))
        clear hl hv hm3
        have HP3 := Lib.hid hp
        have HLE3 := Lib.hid hle
        clear hp hle
        have HG_ := Lib.hid (World.grownBy.trans HG.out hg)
        have HR_ := Lib.hid hr
        have HX_ := Lib.hid (HX.out.kept hg (by omega))
        have HY_ := Lib.hid (HY.out.kept hg (by omega))
        clear hg hr HG HR HX HY
        have HG := HG_
        have HR := HR_
        have HX := HX_
        have HY := HY_
        clear HG_ HR_ HX_ HY_
        obtain ⟨lHX, cHX, fHX⟩ := HX.out.see
        obtain ⟨lHY, cHY, fHY⟩ := HY.out.see
        have hne01 : (W.heap.size = m) = False := eq_false (by omega)
        have hne10 : (m = W.heap.size) = False := eq_false (by omega)
        have HPUT := Lib.hid (Put.set (Put.set (Put.set (Put.refl W.heap.size (m + 1) w5) (p := ⟨m, 1, none⟩) (by simp only; omega) (by simp only; omega) (.int .i64 k')) (p := ⟨m, 2, none⟩) (by simp only; omega) (by simp only; omega) (.string n')) (p := ⟨m, 3, none⟩) (by simp only; omega) (by simp only; omega) (.slice A l'.length c))
        have HG_ := Lib.hid (HPUT.out.grown HG.out (Nat.le_refl _))
        have HR_ := Lib.hid (HR.out.put HPUT.out hR)
        have HX_ := Lib.hid (((HX.out.far (p := ⟨m, 1, none⟩) (by simp only; omega) (.int .i64 k')).far (p := ⟨m, 2, none⟩) (by simp only; omega) (.string n')).far (p := ⟨m, 3, none⟩) (by simp only; omega) (.slice A l'.length c))
        have HY_ : Hid (Bx 99 (((w5.setCell ⟨m, 1, none⟩ (.int .i64 k')).setCell ⟨m, 2, none⟩ (.string n')).setCell ⟨m, 3, none⟩ (.slice A l'.length c)) m #[.string x, .int .i64 k', .string n', .slice A l'.length c]) := Lib.hid (by have h := (((HY.out.set 1 (.int .i64 k')).set 2 (.string n')).set 3 (.slice A l'.length c)); simpa using h)
        have HL_ := Lib.hid (HL.out.put HPUT.out (by omega))
        clear HPUT HG HR HX HY HL
        have HG := HG_
        have HR := HR_
        have HX := HX_
        have HY := HY_
        have HL := HL_
        clear HG_ HR_ HX_ HY_ HL_
        go_wp2_with fail
        clear lHX cHX fHX lHY cHY fHY hne01 hne10
        generalize (((w5.setCell ⟨m, 1, none⟩ (.int .i64 k')).setCell ⟨m, 2, none⟩ (.string n')).setCell ⟨m, 3, none⟩ (.slice A l'.length c)) = w6 at *
        refine (must_rd HR.out ⟨#[41]⟩).mono ?_
        rintro e w7 ⟨hg, ⟨⟨⟩, us3, v, hp, rfl, rfl, hr, hle⟩ | ⟨er, at_, hp, rfl⟩⟩
        · skip
          have HP4 := Lib.hid hp
          have HLE4 := Lib.hid hle
          clear hp hle
          have HG_ := Lib.hid (World.grownBy.trans HG.out hg)
          have HR_ := Lib.hid hr
          have HX_ := Lib.hid (HX.out.kept hg (by omega))
          have HY_ := Lib.hid (HY.out.kept hg (by omega))
          have HL_ := Lib.hid (HL.out.kept hg (by omega))
          clear hg hr HG HR HX HY HL
          have HG := HG_
          have HR := HR_
          have HX := HX_
          have HY := HY_
          have HL := HL_
          clear HG_ HR_ HX_ HY_ HL_
          have HPF : Hid ((variantP) ts = .ok (⟨x, .mk k' n' l'⟩, us3)) := Lib.hid (by rw [variantP, Ps.bd_ok HP1.out, optE_t HW2.out, Ps.bd_ok HP3.out, Ps.bd_ok HP4.out]; exact rfl)
          have HPUT : ∀ w', Put W.heap.size (m + 1) w7 w' → Does (variantP) (Leads W Fld.d) W R ts (.returned (.agg #[.string x, .int .i64 k', .string n', .slice A l'.length c])) w' := fun w' hput => ⟨hput.grown HG.out (Nat.le_refl _), .inl ⟨⟨x, .mk k' n' l'⟩, us3, _, HPF.out, rfl, Leads.fld_mk ((HL.out.put hput (Nat.le_refl _)).low (by omega)), HR.out.put hput hR, by have := HLE1.out; have := HLT2.out; have := HLE3.out; have := HLE4.out; first | omega | (simp at *; done) | (simp at *; omega)⟩⟩
          obtain ⟨lHX, cHX, fHX⟩ := HX.out.see
          obtain ⟨lHY, cHY, fHY⟩ := HY.out.see
          have hne01 : (W.heap.size = m) = False := eq_false (by omega)
          have hne10 : (m = W.heap.size) = False := eq_false (by omega)
          go_wp2_with fail
          refine bodyPost_ret (v := .agg #[.string x, .int .i64 k', .string n', .slice A l'.length c]) (by (simp only [results, Tryd.results36]); go_simp) rfl (HPUT _ ?_)
          repeat (first | with_reducible exact Put.refl _ _ _ | (with_reducible refine Put.set ?_ ?_ ?_ _; rotate_left; (simp only; omega); (simp only; omega)))
        · go_wp2_with fail
          exact ⟨rfl, World.grownBy.trans HG.out hg, .inr ⟨er, at_, (by rw [variantP, Ps.bd_ok HP1.out, optE_t HW2.out, Ps.bd_ok HP3.out]; exact Ps.bd_err hp), rfl⟩⟩
      · go_wp2_with fail
        exact ⟨rfl, World.grownBy.trans HG.out hg, .inr ⟨er, at_, (by rw [variantP, Ps.bd_ok HP1.out, optE_t HW2.out]; exact Ps.bd_err hp), rfl⟩⟩
    · skip
      have HW2 := Lib.hid hw
      clear hw
      have HG_ := Lib.hid (World.grownBy.trans HG.out hg)
      have HR_ := Lib.hid hr
      have HX_ := Lib.hid (HX.out.kept hg (by omega))
      have HY_ := Lib.hid (HY.out.kept hg (by omega))
      clear hg hr HG HR HX HY
      have HG := HG_
      have HR := HR_
      have HX := HX_
      have HY := HY_
      clear HG_ HR_ HX_ HY_
      have HPF : Hid ((variantP) ts = .ok (⟨x, .mk 0 noB []⟩, us)) := Lib.hid (by rw [variantP, Ps.bd_ok HP1.out, optE_f HW2.out]; exact rfl)
      have HPUT : ∀ w', Put W.heap.size (m + 1) w4 w' → Does (variantP) (Leads W Fld.d) W R ts (.returned (.agg #[.string x, .int .i64 0, .string ⟨#[]⟩, .slice none 0 0])) w' := fun w' hput => ⟨hput.grown HG.out (Nat.le_refl _), .inl ⟨⟨x, .mk 0 noB []⟩, us, _, HPF.out, rfl, Leads.fld_mk (by simp only [Ty.ds]; exact Rd.nil _ _ _ _), HR.out.put hput hR, by have := HLE1.out; first | omega | (simp at *; done) | (simp at *; omega)⟩⟩
      obtain ⟨lHX, cHX, fHX⟩ := HX.out.see
      obtain ⟨lHY, cHY, fHY⟩ := HY.out.see
      have hne01 : (W.heap.size = m) = False := eq_false (by omega)
      have hne10 : (m = W.heap.size) = False := eq_false (by omega)
      go_wp2_with fail
      refine bodyPost_ret (v := .agg #[.string x, .int .i64 0, .string ⟨#[]⟩, .slice none 0 0]) (by (simp only [results, Tryd.results36]); go_simp) rfl (HPUT _ ?_)
      repeat (first | with_reducible exact Put.refl _ _ _ | (with_reducible refine Put.set ?_ ?_ ?_ _; rotate_left; (simp only; omega); (simp only; omega)))
  · go_wp2_with fail
    exact ⟨rfl, World.grownBy.trans HG.out hg, .inr ⟨er, at_, (by rw [variantP]; exact Ps.bd_err hp), rfl⟩⟩
theorem Leads.plc_mk {W W' : World} {n : ByteArray} {l : List ByteArray} {u : Value} (h : Rd W' (fun j => W.heap.size ≤ j) u (.row 140 1 (l.map stepD))) : Leads W Plc.d W' (.agg #[.string n, u]) ⟨n, l⟩ :=
  ⟨[.string n, u], rfl, ⟨.v _, h, trivial⟩⟩
theorem Leads.plc {W W' : World} {v : Value} {x : Plc} (h : Leads W Plc.d W' v x) : ∃ n l A c, x = ⟨n, l⟩ ∧ v = .agg #[.string n, .slice A l.length c] ∧ Rd W' (fun j => W.heap.size ≤ j) (.slice A l.length c) (.row 140 1 (l.map stepD)) := by
  obtain ⟨cs, rfl, hc⟩ := h
  obtain ⟨n, l⟩ := x
  match cs, hc with
  | [a, u], hc =>
    obtain ⟨h1, h2, _⟩ := hc
    obtain rfl := h1.v_eq
    obtain ⟨A, c, rfl⟩ := h2.slice
    rw [List.length_map] at h2 ⊢
    exact ⟨n, l, A, c, rfl, rfl, h2⟩

set_option maxRecDepth 100000 in
set_option maxHeartbeats 2000000 in
theorem bare_rd {W : World} {R : Nat} {ts : List Tk} (h : Rdr W R ts) : Calls Tryd.prog 59 #[.pointer (some ⟨R, 0, none⟩)] W fun e W' => Does (bareP) (Leads W Plc.d) W R ts e W' := by
  have hR := h.lt
  have hlen := h.ok.len
  have HR := Lib.hid (h.below ((Below.refl (R + 1) W).alloc (by omega) (.cells #[.string ⟨#[]⟩, .slice none 0 0] 56)) (by omega))
  have HG := Lib.hid (grown_alloc (World.grownBy.refl W (some R)) (.cells #[.string ⟨#[]⟩, .slice none 0 0] 56))
  have HX := Lib.hid (.newAt rfl : Bx 56 (W.alloc (.cells #[.string ⟨#[]⟩, .slice none 0 0] 56)) W.heap.size #[.string ⟨#[]⟩, .slice none 0 0])
  clear h
  go_enter Tryd.func59, Tryd.ntmps59
  go_wp2_with fail
  generalize (W.alloc (.cells #[.string ⟨#[]⟩, .slice none 0 0] 56)) = w8 at *
  refine (name_rd HR.out false).mono ?_
  rintro e w9 ⟨hg, ⟨x, us, v, hp, rfl, rfl, hr, hle⟩ | ⟨er, at_, hp, rfl⟩⟩
  · skip
    have HP1 := Lib.hid hp
    have HLE1 := Lib.hid hle
    clear hp hle
    have HG_ := Lib.hid (World.grownBy.trans HG.out hg)
    have HR_ := Lib.hid hr
    have HX_ := Lib.hid (HX.out.kept hg (by omega))
    clear hg hr HG HR HX
    have HG := HG_
    have HR := HR_
    have HX := HX_
    clear HG_ HR_ HX_
    have HPF : Hid ((bareP) ts = .ok (⟨x, []⟩, us)) := Lib.hid (by rw [bareP, Ps.bd_ok HP1.out]; exact rfl)
    have HPUT : ∀ w', Put W.heap.size (W.heap.size + 1) w9 w' → Does (bareP) (Leads W Plc.d) W R ts (.returned (.agg #[.string x, .slice none 0 0])) w' := fun w' hput => ⟨hput.grown HG.out (Nat.le_refl _), .inl ⟨⟨x, []⟩, us, _, HPF.out, rfl, Leads.plc_mk (by exact Rd.nil _ _ _ _), HR.out.put hput hR, by have := HLE1.out; first | omega | (simp at *; done) | (simp at *; omega)⟩⟩
    obtain ⟨lHX, cHX, fHX⟩ := HX.out.see
    go_wp2_with fail
    refine bodyPost_ret (v := .agg #[.string x, .slice none 0 0]) (by (simp only [results, Tryd.results59]); go_simp) rfl (HPUT _ ?_)
    repeat (first | with_reducible exact Put.refl _ _ _ | (with_reducible refine Put.set ?_ ?_ ?_ _; rotate_left; (simp only; omega); (simp only; omega)))
  · go_wp2_with fail
    exact ⟨rfl, World.grownBy.trans HG.out hg, .inr ⟨er, at_, (by rw [bareP]; exact Ps.bd_err hp), rfl⟩⟩
end Go.Proofs.YtjoiflokekebkaaDoor
