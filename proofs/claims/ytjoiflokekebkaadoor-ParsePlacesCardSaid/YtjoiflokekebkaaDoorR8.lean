/- Walks: operands in brackets, what is made. -/
import Derived.Test.YtjoiflokekebkaaDoorR6o
set_option linter.all false
namespace Go.Proofs.YtjoiflokekebkaaDoor
open Go.RowKit

theorem Leads.rv_mk {W W' : World} {k : Int} {ops : List Opr} {u pu : Value} {pn n v : ByteArray} {pl : List ByteArray} (h : Rd W' (fun j => W.heap.size ≤ j) u (.row 62 4 (ops.map Opr.d))) (h2 : Rd W' (fun j => W.heap.size ≤ j) pu (.row 140 1 (pl.map stepD))) :
    Leads W Rvl.d W' (.agg #[.int .i64 k, u, .string pn, pu, .string n, .string v]) ⟨k, ops, ⟨pn, pl⟩, n, v⟩ :=
  ⟨[.int .i64 k, u, .string pn, pu, .string n, .string v], rfl, ⟨.v _, h, .v _, h2, .v _, .v _, trivial⟩⟩
theorem Leads.rv {W W' : World} {v : Value} {x : Rvl} (h : Leads W Rvl.d W' v x) : ∃ k ops pn pl n vr A c A2 c2, x = ⟨k, ops, ⟨pn, pl⟩, n, vr⟩ ∧ v = .agg #[.int .i64 k, .slice A ops.length c, .string pn, .slice A2 pl.length c2, .string n, .string vr] ∧
    Rd W' (fun j => W.heap.size ≤ j) (.slice A ops.length c) (.row 62 4 (ops.map Opr.d)) ∧ Rd W' (fun j => W.heap.size ≤ j) (.slice A2 pl.length c2) (.row 140 1 (pl.map stepD)) := by
  obtain ⟨cs, rfl, hc⟩ := h
  obtain ⟨k, ops, ⟨pn, pl⟩, n, vr⟩ := x
  match cs, hc with
  | [a0, a1, a2, a3, a4, a5], hc =>
    obtain ⟨h1, h2, h3, h4, h5, h6, _⟩ := hc
    obtain rfl := h1.v_eq
    obtain rfl := h3.v_eq
    obtain rfl := h5.v_eq
    obtain rfl := h6.v_eq
    obtain ⟨A, c, rfl⟩ := h2.slice
    obtain ⟨A2, c2, rfl⟩ := h4.slice
    rw [List.length_map] at h2 h4 ⊢
    rw [List.length_map]
    exact ⟨k, ops, pn, pl, n, vr, A, c, A2, c2, rfl, rfl, h2, h4⟩
theorem opr_rds {w : World} {ok : Nat → Prop} {b : Bool} {n : Int} {m : ByteArray} {l : List ByteArray} {u : Value} (h : Rd w ok u (.row 140 1 (l.map stepD))) : Rds w ok [.bool b, .int .i64 n, .string m, u] (Opr.d ⟨b, n, ⟨m, l⟩⟩) := ⟨.v _, .v _, .v _, h, trivial⟩

set_option maxRecDepth 100000 in
set_option maxHeartbeats 2000000 in
theorem args_rd {W : World} {R : Nat} {ts : List Tk} (h : Rdr W R ts) : Calls Tryd.prog 69 #[.pointer (some ⟨R, 0, none⟩)] W fun e W' => Does (argsP) (fun W' v l => Rd W' (fun k => W.heap.size ≤ k) v (.row 62 4 (l.map Opr.d))) W R ts e W' := by
  have hR := h.lt
  have hlen := h.ok.len
  have HR := Lib.hid h
  have HG := Lib.hid (World.grownBy.refl W (some R))
  have hmf := mf
  clear h
  go_enter Tryd.func69, Tryd.ntmps69
  go_wp2_with fail
  refine (must_rd HR.out ⟨#[40]⟩).mono ?_
  rintro e w1 ⟨hg, ⟨⟨⟩, us, v, hp, rfl, rfl, hr, hle⟩ | ⟨er, at_, hp, rfl⟩⟩
  · skip
    have HP1 := Lib.hid hp
    have HLE1 := Lib.hid hle
    clear hp hle
    have HG_ := Lib.hid (World.grownBy.trans HG.out hg)
    have HR_ := Lib.hid hr
    clear hg hr HG HR
    have HG := HG_
    have HR := HR_
    clear HG_ HR_
    go_wp2_with fail
    have hs0 : W.heap.size ≤ w1.heap.size := HG.out.size
    refine (list_Oper HR.out ⟨#[41]⟩).mono ?_
    rintro e w2 ⟨hg, ⟨l, us2, v, hp, rfl, hv, hr, hle⟩ | ⟨er, at_, hp, rfl⟩⟩
    · skip
      have HV := Lib.hid (hv.low hs0)
      clear hv
      have HP2 := Lib.hid hp
      have HLE2 := Lib.hid hle
      clear hp hle
      have HG_ := Lib.hid (World.grownBy.trans HG.out hg)
      have HR_ := Lib.hid hr
      clear hg hr HG HR
      have HG := HG_
      have HR := HR_
      clear HG_ HR_
      have HPF : Hid (argsP ts = .ok (l, us2)) := Lib.hid (by rw [argsP, Ps.bd_ok HP1.out]; exact HP2.out)
      go_wp2_with fail
      go_ret
      exact ⟨HG.out, .inl ⟨l, us2, _, HPF.out, rfl, HV.out, HR.out, by have := HLE1.out; have := HLE2.out; omega⟩⟩
    · go_wp2_with fail
      exact ⟨rfl, World.grownBy.trans HG.out hg, .inr ⟨er, at_, (by rw [argsP, Ps.bd_ok HP1.out]; exact hp), rfl⟩⟩
  · go_wp2_with fail
    exact ⟨rfl, World.grownBy.trans HG.out hg, .inr ⟨er, at_, (by rw [argsP]; exact Ps.bd_err hp), rfl⟩⟩
set_option maxRecDepth 100000 in
set_option maxHeartbeats 2000000 in
theorem made_rd {W : World} {R : Nat} {ts : List Tk} (h : Rdr W R ts) : Calls Tryd.prog 70 #[.pointer (some ⟨R, 0, none⟩)] W fun e W' => Does (madeP) (Leads W Rvl.d) W R ts e W' := by
  have hR := h.lt
  have hlen := h.ok.len
  have HR := Lib.hid (h.below ((Below.refl (R + 1) W).alloc (by omega) (.cells #[.int .i64 0, .slice none 0 0, .string ⟨#[]⟩, .slice none 0 0, .string ⟨#[]⟩, .string ⟨#[]⟩] 60)) (by omega))
  have HG := Lib.hid (grown_alloc (World.grownBy.refl W (some R)) (.cells #[.int .i64 0, .slice none 0 0, .string ⟨#[]⟩, .slice none 0 0, .string ⟨#[]⟩, .string ⟨#[]⟩] 60))
  have HX := Lib.hid (.newAt rfl : Bx 60 (W.alloc (.cells #[.int .i64 0, .slice none 0 0, .string ⟨#[]⟩, .slice none 0 0, .string ⟨#[]⟩, .string ⟨#[]⟩] 60)) W.heap.size #[.int .i64 0, .slice none 0 0, .string ⟨#[]⟩, .slice none 0 0, .string ⟨#[]⟩, .string ⟨#[]⟩])
  clear h
  go_enter Tryd.func70, Tryd.ntmps70
  go_wp2_with fail
  generalize (W.alloc (.cells #[.int .i64 0, .slice none 0 0, .string ⟨#[]⟩, .slice none 0 0, .string ⟨#[]⟩, .string ⟨#[]⟩] 60)) = w3 at *
  refine (name_rd HR.out true).mono ?_
  rintro e w4 ⟨hg, ⟨n, us, v, hp, rfl, rfl, hr, hle⟩ | ⟨er, at_, hp, rfl⟩⟩
  · skip
    have HP1 := Lib.hid hp
    have HLE1 := Lib.hid hle
    clear hp hle
    have HG_ := Lib.hid (World.grownBy.trans HG.out hg)
    have HR_ := Lib.hid hr
    have HX_ := Lib.hid (HX.out.kept hg (by omega))
    clear hg hr HG HR HX
    have HG := HG_
    have HR := HR_
    have HX := HX_
    clear HG_ HR_ HX_
    have hlm : W.heap.size < w4.heap.size := blk_lt HX.out
    have HG_ := Lib.hid (grown_alloc HG.out (.cells #[.int .i64 10, .slice none 0 0, .string ⟨#[]⟩, .slice none 0 0, .string n, .string ⟨#[]⟩] 60))
    have HR_ := Lib.hid (HR.out.below (bel_one HR.out.lt (.cells #[.int .i64 10, .slice none 0 0, .string ⟨#[]⟩, .slice none 0 0, .string n, .string ⟨#[]⟩] 60)) (by omega))
    have HX_ := Lib.hid (HX.out.alloc (.cells #[.int .i64 10, .slice none 0 0, .string ⟨#[]⟩, .slice none 0 0, .string n, .string ⟨#[]⟩] 60))
    have HY_ : Hid (Bx 60 (w4.alloc (.cells #[.int .i64 10, .slice none 0 0, .string ⟨#[]⟩, .slice none 0 0, .string n, .string ⟨#[]⟩] 60)) w4.heap.size #[.int .i64 10, .slice none 0 0, .string ⟨#[]⟩, .slice none 0 0, .string n, .string ⟨#[]⟩]) := Lib.hid (.newAt rfl)
    clear HG HR HX
    have HG := HG_
    have HR := HR_
    have HX := HX_
    clear HG_ HR_ HX_
    have HY := HY_
    clear HY_
    go_wp2_with fail
    generalize w4.alloc (.cells #[.int .i64 10, .slice none 0 0, .string ⟨#[]⟩, .slice none 0 0, .string n, .string ⟨#[]⟩] 60) = w5 at *
    generalize w4.heap.size = m at *
    refine (opt_rd HR.out ⟨#[58, 58]⟩).mono ?_
    rintro e w6 ⟨hg, ⟨hw, rfl, hr⟩ | ⟨hw, rfl, hr⟩⟩
    · skip
      have HW2 := Lib.hid hw
      have HLT2 := Lib.hid (isW_pos hw)
      clear hw
      have HG_ := Lib.hid (World.grownBy.trans HG.out hg)
      have HR_ := Lib.hid hr
      have HX_ := Lib.hid (HX.out.kept hg (by omega))
      have HY_ := Lib.hid (HY.out.kept hg (by omega))
      clear hg hr HG HR HX HY
      have HG := HG_
      have HR := HR_
      have HX := HX_
      have HY := HY_
      clear HG_ HR_ HX_ HY_
      go_wp2_with fail
      refine (name_rd HR.out true).mono ?_
      rintro e w7 ⟨hg, ⟨vr, us2, v, hp, rfl, rfl, hr, hle⟩ | ⟨er, at_, hp, rfl⟩⟩
      · skip
        have HP3 := Lib.hid hp
        have HLE3 := Lib.hid hle
        clear hp hle
        have HG_ := Lib.hid (World.grownBy.trans HG.out hg)
        have HR_ := Lib.hid hr
        have HX_ := Lib.hid (HX.out.kept hg (by omega))
        have HY_ := Lib.hid (HY.out.kept hg (by omega))
        clear hg hr HG HR HX HY
        have HG := HG_
        have HR := HR_
        have HX := HX_
        have HY := HY_
        clear HG_ HR_ HX_ HY_
        obtain ⟨lHX, cHX, fHX⟩ := HX.out.see
        obtain ⟨lHY, cHY, fHY⟩ := HY.out.see
        have hne01 : (W.heap.size = m) = False := eq_false (by omega)
        have hne10 : (m = W.heap.size) = False := eq_false (by omega)
        have HPUT := Lib.hid (Put.set (Put.set (Put.refl W.heap.size (m + 1) w7) (p := ⟨m, 0, none⟩) (by simp only; omega) (by simp only; omega) (.int .i64 11)) (p := ⟨m, 5, none⟩) (by simp only; omega) (by simp only; omega) (.string vr))
        have HG_ := Lib.hid (HPUT.out.grown HG.out (Nat.le_refl _))
        have HR_ := Lib.hid (HR.out.put HPUT.out hR)
        have HX_ := Lib.hid ((HX.out.far (p := ⟨m, 0, none⟩) (by simp only; omega) (.int .i64 11)).far (p := ⟨m, 5, none⟩) (by simp only; omega) (.string vr))
        have HY_ : Hid (Bx 60 ((w7.setCell ⟨m, 0, none⟩ (.int .i64 11)).setCell ⟨m, 5, none⟩ (.string vr)) m #[.int .i64 11, .slice none 0 0, .string ⟨#[]⟩, .slice none 0 0, .string n, .string vr]) := Lib.hid (by have h := ((HY.out.set 0 (.int .i64 11)).set 5 (.string vr)); simpa using h)
        clear HPUT HG HR HX HY
        have HG := HG_
        have HR := HR_
        have HX := HX_
        have HY := HY_
        clear HG_ HR_ HX_ HY_
        go_wp2_with fail
        clear lHX cHX fHX lHY cHY fHY hne01 hne10
        generalize ((w7.setCell ⟨m, 0, none⟩ (.int .i64 11)).setCell ⟨m, 5, none⟩ (.string vr)) = w8 at *
        refine (opt_rd HR.out ⟨#[40]⟩).mono ?_
        rintro e w9 ⟨hg, ⟨hw, rfl, hr⟩ | ⟨hw, rfl, hr⟩⟩
        · skip
          have HW4 := Lib.hid hw
          have HLT4 := Lib.hid (isW_pos hw)
          clear hw
          have HG_ := Lib.hid (World.grownBy.trans HG.out hg)
          have HR_ := Lib.hid hr
          have HX_ := Lib.hid (HX.out.kept hg (by omega))
          have HY_ := Lib.hid (HY.out.kept hg (by omega))
          clear hg hr HG HR HX HY
          have HG := HG_
          have HR := HR_
          have HX := HX_
          have HY := HY_
          clear HG_ HR_ HX_ HY_
          go_wp2_with fail
          refine (oper_rd HR.out).mono ?_
          rintro e w10 ⟨hg, ⟨o, us3, v, hp, rfl, hv, hr, hle⟩ | ⟨er, at_, hp, rfl⟩⟩
          · skip
            obtain ⟨ob, on, om, ol, A, c, rfl, rfl, hl⟩ := hv.opr
            have hm3 := blk_lt HY.out
            have HL := Lib.hid (hl.low (m := m + 1) (by omega))
            clear hl hv hm3
            have HP5 := Lib.hid hp
            have HLE5 := Lib.hid hle
            clear hp hle
            have HG_ := Lib.hid (World.grownBy.trans HG.out hg)
            have HR_ := Lib.hid hr
            have HX_ := Lib.hid (HX.out.kept hg (by omega))
            have HY_ := Lib.hid (HY.out.kept hg (by omega))
            clear hg hr HG HR HX HY
            have HG := HG_
            have HR := HR_
            have HX := HX_
            have HY := HY_
            clear HG_ HR_ HX_ HY_
            obtain ⟨lHX, cHX, fHX⟩ := HX.out.see
            obtain ⟨lHY, cHY, fHY⟩ := HY.out.see
            have hne01 : (W.heap.size = m) = False := eq_false (by omega)
            have hne10 : (m = W.heap.size) = False := eq_false (by omega)
            have HPUT := Lib.hid (Put.set (Put.refl W.heap.size (m + 1) w10) (p := ⟨m, 1, none⟩) (by simp only; omega) (by simp only; omega) (.slice (some ⟨w10.heap.size, 0, none⟩) 1 1))
            have hsz0 : m < w10.heap.size := blk_lt HY.out
            have HO_ : Hid (Rd ((w10.setCell ⟨m, 1, none⟩ (.slice (some ⟨w10.heap.size, 0, none⟩) 1 1)).alloc (.cells #[.bool ob, .int .i64 on, .string om, .slice A ol.length c] 62)) (fun j => m + 1 ≤ j) (.slice (some ⟨w10.heap.size, 0, none⟩) 1 1) (.row 62 4 [Opr.d ⟨ob, on, ⟨om, ol⟩⟩])) := Lib.hid (by have h := Rd.lit (ok := fun j => m + 1 ≤ j) (w10.setCell ⟨m, 1, none⟩ (.slice (some ⟨w10.heap.size, 0, none⟩) 1 1)) (e := 62) (sz := 4) (cs := [.bool ob, .int .i64 on, .string om, .slice A ol.length c]) (ds := Opr.d ⟨ob, on, ⟨om, ol⟩⟩) (okp := fun j => m + 1 ≤ j) ((opr_rds (b := ob) (n := on) (m := om) HL.out).far (fun k hk => by simp only; omega) _) rfl (fun j hj => by rw [World.size_setCell] at hj; omega) (fun j hj => hj); rw [World.size_setCell] at h; exact h)
            have HG_ := Lib.hid (grown_alloc (HPUT.out.grown HG.out (Nat.le_refl _)) (.cells #[.bool ob, .int .i64 on, .string om, .slice A ol.length c] 62))
            have HR_ := Lib.hid ((HR.out.put HPUT.out hR).below (bel_one (HR.out.put HPUT.out hR).lt (.cells #[.bool ob, .int .i64 on, .string om, .slice A ol.length c] 62)) (by omega))
            have HX_ := Lib.hid ((HX.out.far (p := ⟨m, 1, none⟩) (by simp only; omega) (.slice (some ⟨w10.heap.size, 0, none⟩) 1 1)).alloc (.cells #[.bool ob, .int .i64 on, .string om, .slice A ol.length c] 62))
            have HY_ : Hid (Bx 60 ((w10.setCell ⟨m, 1, none⟩ (.slice (some ⟨w10.heap.size, 0, none⟩) 1 1)).alloc (.cells #[.bool ob, .int .i64 on, .string om, .slice A ol.length c] 62)) m #[.int .i64 11, .slice (some ⟨w10.heap.size, 0, none⟩) 1 1, .string ⟨#[]⟩, .slice none 0 0, .string n, .string vr]) := Lib.hid (by have h := (HY.out.set 1 (.slice (some ⟨w10.heap.size, 0, none⟩) 1 1)).alloc (.cells #[.bool ob, .int .i64 on, .string om, .slice A ol.length c] 62); simpa using h)
            have HL_ := Lib.hid ((HL.out.put HPUT.out (by omega)).bel ((Below.refl _ _).alloc (Nat.le_refl _) (.cells #[.bool ob, .int .i64 on, .string om, .slice A ol.length c] 62)))
            clear HPUT hsz0 HG HR HX HY HL
            have HG := HG_
            have HR := HR_
            have HX := HX_
            have HY := HY_
            have HL := HL_
            clear HG_ HR_ HX_ HY_ HL_
            have HO := HO_
            clear HO_
            go_wp2_with fail
            clear lHX cHX fHX lHY cHY fHY hne01 hne10
            generalize ((w10.setCell ⟨m, 1, none⟩ (.slice (some ⟨w10.heap.size, 0, none⟩) 1 1)).alloc (.cells #[.bool ob, .int .i64 on, .string om, .slice A ol.length c] 62)) = w11 at *
            generalize w10.heap.size = z1 at *
            refine (must_rd HR.out ⟨#[41]⟩).mono ?_
            rintro e w12 ⟨hg, ⟨⟨⟩, us4, v, hp, rfl, rfl, hr, hle⟩ | ⟨er, at_, hp, rfl⟩⟩
            · skip
              have HP6 := Lib.hid hp
              have HLE6 := Lib.hid hle
              clear hp hle
              have HG_ := Lib.hid (World.grownBy.trans HG.out hg)
              have HR_ := Lib.hid hr
              have HX_ := Lib.hid (HX.out.kept hg (by omega))
              have HY_ := Lib.hid (HY.out.kept hg (by omega))
              have HL_ := Lib.hid (HL.out.kept hg (by omega))
              have HO_ := Lib.hid (HO.out.kept hg (by omega))
              clear hg hr HG HR HX HY HL HO
              have HG := HG_
              have HR := HR_
              have HX := HX_
              have HY := HY_
              have HL := HL_
              have HO := HO_
              clear HG_ HR_ HX_ HY_ HL_ HO_
              have HPF : Hid ((madeP) ts = .ok (⟨11, [⟨ob, on, ⟨om, ol⟩⟩], ⟨noB, []⟩, n, vr⟩, us4)) := Lib.hid (by rw [madeP, Ps.bd_ok HP1.out, optE_t HW2.out, Ps.bd_ok HP3.out, optE_t HW4.out, Ps.bd_ok HP5.out, Ps.bd_ok HP6.out]; exact rfl)
              have HPUT : ∀ w', Put W.heap.size (m + 1) w12 w' → Does (madeP) (Leads W Rvl.d) W R ts (.returned (.agg #[.int .i64 11, .slice (some ⟨z1, 0, none⟩) 1 1, .string ⟨#[]⟩, .slice none 0 0, .string n, .string vr])) w' := fun w' hput => ⟨hput.grown HG.out (Nat.le_refl _), .inl ⟨⟨11, [⟨ob, on, ⟨om, ol⟩⟩], ⟨noB, []⟩, n, vr⟩, us4, _, HPF.out, rfl, Leads.rv_mk ((HO.out.put hput (Nat.le_refl _)).low (by omega)) (by exact Rd.nil _ _ _ _), HR.out.put hput hR, by have := HLE1.out; have := HLT2.out; have := HLE3.out; have := HLT4.out; have := HLE5.out; have := HLE6.out; first | omega | (simp at *; done) | (simp at *; omega)⟩⟩
              obtain ⟨lHX, cHX, fHX⟩ := HX.out.see
              obtain ⟨lHY, cHY, fHY⟩ := HY.out.see
              have hne01 : (W.heap.size = m) = False := eq_false (by omega)
              have hne10 : (m = W.heap.size) = False := eq_false (by omega)
              go_wp2_with fail
              refine bodyPost_ret (v := .agg #[.int .i64 11, .slice (some ⟨z1, 0, none⟩) 1 1, .string ⟨#[]⟩, .slice none 0 0, .string n, .string vr]) (by (simp only [results, Tryd.results70]); go_simp) rfl (HPUT _ ?_)
              repeat (first | with_reducible exact Put.refl _ _ _ | (with_reducible refine Put.set ?_ ?_ ?_ _; rotate_left; (simp only; omega); (simp only; omega)))
            · go_wp2_with fail
              exact ⟨rfl, World.grownBy.trans HG.out hg, .inr ⟨er, at_, (by rw [madeP, Ps.bd_ok HP1.out, optE_t HW2.out, Ps.bd_ok HP3.out, optE_t HW4.out, Ps.bd_ok HP5.out]; exact Ps.bd_err hp), rfl⟩⟩
          · go_wp2_with fail
            exact ⟨rfl, World.grownBy.trans HG.out hg, .inr ⟨er, at_, (by rw [madeP, Ps.bd_ok HP1.out, optE_t HW2.out, Ps.bd_ok HP3.out, optE_t HW4.out]; exact Ps.bd_err hp), rfl⟩⟩
        · skip
          have HW4 := Lib.hid hw
          clear hw
          have HG_ := Lib.hid (World.grownBy.trans HG.out hg)
          have HR_ := Lib.hid hr
          have HX_ := Lib.hid (HX.out.kept hg (by omega))
          have HY_ := Lib.hid (HY.out.kept hg (by omega))
          clear hg hr HG HR HX HY
          have HG := HG_
          have HR := HR_
          have HX := HX_
          have HY := HY_
          clear HG_ HR_ HX_ HY_
          have HPF : Hid ((madeP) ts = .ok (⟨11, [], ⟨noB, []⟩, n, vr⟩, us2)) := Lib.hid (by rw [madeP, Ps.bd_ok HP1.out, optE_t HW2.out, Ps.bd_ok HP3.out, optE_f HW4.out]; exact rfl)
          have HPUT : ∀ w', Put W.heap.size (m + 1) w9 w' → Does (madeP) (Leads W Rvl.d) W R ts (.returned (.agg #[.int .i64 11, .slice none 0 0, .string ⟨#[]⟩, .slice none 0 0, .string n, .string vr])) w' := fun w' hput => ⟨hput.grown HG.out (Nat.le_refl _), .inl ⟨⟨11, [], ⟨noB, []⟩, n, vr⟩, us2, _, HPF.out, rfl, Leads.rv_mk (by exact Rd.nil _ _ _ _) (by exact Rd.nil _ _ _ _), HR.out.put hput hR, by have := HLE1.out; have := HLT2.out; have := HLE3.out; first | omega | (simp at *; done) | (simp at *; omega)⟩⟩
          obtain ⟨lHX, cHX, fHX⟩ := HX.out.see
          obtain ⟨lHY, cHY, fHY⟩ := HY.out.see
          have hne01 : (W.heap.size = m) = False := eq_false (by omega)
          have hne10 : (m = W.heap.size) = False := eq_false (by omega)
          go_wp2_with fail
          refine bodyPost_ret (v := .agg #[.int .i64 11, .slice none 0 0, .string ⟨#[]⟩, .slice none 0 0, .string n, .string vr]) (by (simp only [results, Tryd.results70]); go_simp) rfl (HPUT _ ?_)
          repeat (first | with_reducible exact Put.refl _ _ _ | (with_reducible refine Put.set ?_ ?_ ?_ _; rotate_left; (simp only; omega); (simp only; omega)))
      · go_wp2_with fail
        exact ⟨rfl, World.grownBy.trans HG.out hg, .inr ⟨er, at_, (by rw [madeP, Ps.bd_ok HP1.out, optE_t HW2.out]; exact Ps.bd_err hp), rfl⟩⟩
    · skip
      have HW2 := Lib.hid hw
      clear hw
      have HG_ := Lib.hid (World.grownBy.trans HG.out hg)
      have HR_ := Lib.hid hr
      have HX_ := Lib.hid (HX.out.kept hg (by omega))
      have HY_ := Lib.hid (HY.out.kept hg (by omega))
      clear hg hr HG HR HX HY
      have HG := HG_
      have HR := HR_
      have HX := HX_
      have HY := HY_
      clear HG_ HR_ HX_ HY_
      go_wp2_with fail
      refine (args_rd HR.out).mono ?_
      rintro e w13 ⟨hg, ⟨l, us2, v, hp, rfl, hv, hr, hle⟩ | ⟨er, at_, hp, rfl⟩⟩
      · skip
        obtain ⟨A, c, rfl⟩ := hv.slice
        have hm3 := blk_lt HY.out
        have HL := Lib.hid (hv.low (m := m + 1) (by omega))
        clear hv hm3
        have HP7 := Lib.hid hp
        have HLE7 := Lib.hid hle
        clear hp hle
        have HG_ := Lib.hid (World.grownBy.trans HG.out hg)
        have HR_ := Lib.hid hr
        have HX_ := Lib.hid (HX.out.kept hg (by omega))
        have HY_ := Lib.hid (HY.out.kept hg (by omega))
        clear hg hr HG HR HX HY
        have HG := HG_
        have HR := HR_
        have HX := HX_
        have HY := HY_
        clear HG_ HR_ HX_ HY_
        have HPF : Hid ((madeP) ts = .ok (⟨10, l, ⟨noB, []⟩, n, noB⟩, us2)) := Lib.hid (by rw [madeP, Ps.bd_ok HP1.out, optE_f HW2.out, Ps.bd_ok HP7.out]; exact rfl)
        have HPUT : ∀ w', Put W.heap.size (m + 1) w13 w' → Does (madeP) (Leads W Rvl.d) W R ts (.returned (.agg #[.int .i64 10, .slice A (l.map Opr.d).length c, .string ⟨#[]⟩, .slice none 0 0, .string n, .string ⟨#[]⟩])) w' := fun w' hput => ⟨hput.grown HG.out (Nat.le_refl _), .inl ⟨⟨10, l, ⟨noB, []⟩, n, noB⟩, us2, _, HPF.out, rfl, Leads.rv_mk ((HL.out.put hput (Nat.le_refl _)).low (by omega)) (by exact Rd.nil _ _ _ _), HR.out.put hput hR, by have := HLE1.out; have := HLE7.out; first | omega | (simp at *; done) | (simp at *; omega)⟩⟩
        obtain ⟨lHX, cHX, fHX⟩ := HX.out.see
        obtain ⟨lHY, cHY, fHY⟩ := HY.out.see
        have hne01 : (W.heap.size = m) = False := eq_false (by omega)
        have hne10 : (m = W.heap.size) = False := eq_false (by omega)
        go_wp2_with fail
        refine bodyPost_ret (v := .agg #[.int .i64 10, .slice A (l.map Opr.d).length c, .string ⟨#[]⟩, .slice none 0 0, .string n, .string ⟨#[]⟩]) (by (simp only [results, Tryd.results70]); go_simp) rfl (HPUT _ ?_)
        repeat (first | with_reducible exact Put.refl _ _ _ | (with_reducible refine Put.set ?_ ?_ ?_ _; rotate_left; (simp only; omega); (simp only; omega)))
      · go_wp2_with fail
        exact ⟨rfl, World.grownBy.trans HG.out hg, .inr ⟨er, at_, (by rw [madeP, Ps.bd_ok HP1.out, optE_f HW2.out]; exact Ps.bd_err hp), rfl⟩⟩
  · go_wp2_with fail
    exact ⟨rfl, World.grownBy.trans HG.out hg, .inr ⟨er, at_, (by rw [madeP]; exact Ps.bd_err hp), rfl⟩⟩
end Go.Proofs.YtjoiflokekebkaaDoor
