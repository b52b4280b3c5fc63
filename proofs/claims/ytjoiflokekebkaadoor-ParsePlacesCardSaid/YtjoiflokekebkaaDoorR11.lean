/- Walks: a statement that has none in it. -/
import Derived.Test.YtjoiflokekebkaaDoorR10
set_option linter.all false
namespace Go.Proofs.YtjoiflokekebkaaDoor
open Go.RowKit

theorem stm_rds {w : World} {ok : Nat → Prop} {k at_ tk rk on : Int} {n tn pn rpn rn rv om : ByteArray} {b : Bool} {tl : List Ty} {pl rpl ol : List ByteArray} {ops : List Opr} {th el : List Stm} {arms : List Arm} {tu pu ou rpu olu thu elu au : Value} (h1 : Rd w ok tu (.row 53 3 (Ty.ds tl))) (h2 : Rd w ok pu (.row 140 1 (pl.map stepD))) (h3 : Rd w ok ou (.row 62 4 (ops.map Opr.d))) (h4 : Rd w ok rpu (.row 140 1 (rpl.map stepD))) (h5 : Rd w ok olu (.row 140 1 (ol.map stepD))) (h6 : Rd w ok thu (.row 65 21 (Stm.ds th))) (h7 : Rd w ok elu (.row 65 21 (Stm.ds el))) (h8 : Rd w ok au (.row 77 3 (Arm.ds arms))) :
    Rds w ok [.int .i64 k, .int .i64 at_, .string n, .int .i64 tk, .string tn, tu, .string pn, pu, .int .i64 rk, ou, .string rpn, rpu, .string rn, .string rv, .bool b, .int .i64 on, .string om, olu, thu, elu, au] (Stm.d (.mk k at_ n (.mk tk tn tl) ⟨pn, pl⟩ ⟨rk, ops, ⟨rpn, rpl⟩, rn, rv⟩ ⟨b, on, ⟨om, ol⟩⟩ th el arms)) := by
  simp only [Stm.d, Ty.d]
  exact ⟨.v _, .v _, .v _, .v _, .v _, h1, .v _, h2, .v _, h3, .v _, h4, .v _, .v _, .v _, .v _, .v _, h5, h6, h7, h8, trivial⟩

/-- What 'simple' does: the statement is laid in the box. -/
def Simple (at_ : Int) (W : World) (R B : Nat) (ts : List Tk) (e : Ending) (w' : World) : Prop :=
  W.grownBy w' (some R) ∧ ((∃ x us cs, simpleP at_ ts = .ok (x, us) ∧ e = .returned (.tuple #[]) ∧ Bx 65 w' B (List.toArray cs) ∧ Rds w' (fun j => B < j) cs (Stm.d x) ∧ Rdr w' R us ∧ us.length ≤ ts.length) ∨
    (∃ er at2, simpleP at_ ts = .error (er, at2) ∧ e = .panicked [{ v := .iface 73 (.agg #[.int .i64 er, .int .i64 at2]), recovered := false }]))
set_option maxRecDepth 100000 in
set_option maxHeartbeats 16000000 in
theorem simple_rd {W w0 : World} {R B : Nat} {ts : List Tk} (h : Rdr w0 R ts) (hg0 : W.grownBy w0 (some R)) (hR : R < W.heap.size) (hB : W.heap.size ≤ B) (at_ : Int) (hb : Bx 65 w0 B #[.int .i64 0, .int .i64 at_, .string ⟨#[]⟩, .int .i64 0, .string ⟨#[]⟩, .slice none 0 0, .string ⟨#[]⟩, .slice none 0 0, .int .i64 0, .slice none 0 0, .string ⟨#[]⟩, .slice none 0 0, .string ⟨#[]⟩, .string ⟨#[]⟩, .bool false, .int .i64 0, .string ⟨#[]⟩, .slice none 0 0, .slice none 0 0, .slice none 0 0, .slice none 0 0]) :
    Calls Tryd.prog 61 #[.pointer (some ⟨R, 0, none⟩), .pointer (some ⟨B, 0, none⟩)] w0 fun e w' => Simple at_ W R B ts e w' := by
  have HG := Lib.hid hg0
  have HR := Lib.hid h
  have HB := Lib.hid hb
  clear h hg0 hb
  go_enter Tryd.func61, Tryd.ntmps61
  go_wp2_with fail
  refine (opt_rd HR.out ⟨#[108, 101, 116]⟩).mono ?_
  rintro e w1 ⟨hg, ⟨hw, rfl, hr⟩ | ⟨hw, rfl, hr⟩⟩
  · skip
    have HW1 := Lib.hid hw
    have HLT1 := Lib.hid (isW_pos hw)
    clear hw
    have HG_ := Lib.hid (World.grownBy.trans HG.out hg)
    have HR_ := Lib.hid hr
    have HB_ := Lib.hid (HB.out.kept hg (by omega))
    clear hg hr HG HR HB
    have HG := HG_
    have HR := HR_
    have HB := HB_
    clear HG_ HR_ HB_
    go_wp2_with fail
    refine (name_rd HR.out false).mono ?_
    rintro e w2 ⟨hg, ⟨n, us, v, hp, rfl, rfl, hr, hle⟩ | ⟨er, at9, hp, rfl⟩⟩
    · skip
      have HP2 := Lib.hid hp
      have HLE2 := Lib.hid hle
      clear hp hle
      have HG_ := Lib.hid (World.grownBy.trans HG.out hg)
      have HR_ := Lib.hid hr
      have HB_ := Lib.hid (HB.out.kept hg (by omega))
      clear hg hr HG HR HB
      have HG := HG_
      have HR := HR_
      have HB := HB_
      clear HG_ HR_ HB_
      obtain ⟨lHB, cHB, fHB⟩ := HB.out.see
      have HPUT := Lib.hid (Put.set (Put.set (Put.refl W.heap.size (B + 1) w2) (p := ⟨B, 0, none⟩) (by simp only; omega) (by simp only; omega) (.int .i64 0)) (p := ⟨B, 2, none⟩) (by simp only; omega) (by simp only; omega) (.string n))
      have HG_ := Lib.hid (HPUT.out.grown HG.out (Nat.le_refl _))
      have HR_ := Lib.hid (HR.out.put HPUT.out hR)
      have HB_ : Hid (Bx 65 ((w2.setCell ⟨B, 0, none⟩ (.int .i64 0)).setCell ⟨B, 2, none⟩ (.string n)) B #[.int .i64 0, .int .i64 at_, .string n, .int .i64 0, .string ⟨#[]⟩, .slice none 0 0, .string ⟨#[]⟩, .slice none 0 0, .int .i64 0, .slice none 0 0, .string ⟨#[]⟩, .slice none 0 0, .string ⟨#[]⟩, .string ⟨#[]⟩, .bool false, .int .i64 0, .string ⟨#[]⟩, .slice none 0 0, .slice none 0 0, .slice none 0 0, .slice none 0 0]) := Lib.hid (by have h := ((HB.out.set 0 (.int .i64 0)).set 2 (.string n)); simpa using h)
      clear HPUT HG HR HB
      have HG := HG_
      have HR := HR_
      have HB := HB_
      clear HG_ HR_ HB_
      go_wp2_with fail
      clear lHB cHB fHB
      generalize ((w2.setCell ⟨B, 0, none⟩ (.int .i64 0)).setCell ⟨B, 2, none⟩ (.string n)) = w3 at *
      refine (must_rd HR.out ⟨#[58]⟩).mono ?_
      rintro e w4 ⟨hg, ⟨⟨⟩, us2, v, hp, rfl, rfl, hr, hle⟩ | ⟨er, at9, hp, rfl⟩⟩
      · skip
        have HP3 := Lib.hid hp
        have HLE3 := Lib.hid hle
        clear hp hle
        have HG_ := Lib.hid (World.grownBy.trans HG.out hg)
        have HR_ := Lib.hid hr
        have HB_ := Lib.hid (HB.out.kept hg (by omega))
        clear hg hr HG HR HB
        have HG := HG_
        have HR := HR_
        have HB := HB_
        clear HG_ HR_ HB_
        go_wp2_with fail
        refine (ty_rd 61 0 (by omega) (by omega) _ _ _ HR.out).mono ?_
        rintro e w5 ⟨hg, ⟨t, us3, v, hp, rfl, hv, hr, hle⟩ | ⟨er, at9, hp, rfl⟩⟩
        · skip
          obtain ⟨tk, tn, tl, A, c, rfl, rfl, hl⟩ := hv.ty
          have hm3 := blk_lt HB.out
          have HT := Lib.hid (hl.mono (ok' := fun j => B < j) (fun k hk => by omega))
          clear hm3
          clear hl hv
          have HP4 := Lib.hid hp
          have HLE4 := Lib.hid hle
          clear hp hle
          have HG_ := Lib.hid (World.grownBy.trans HG.out hg)
          have HR_ := Lib.hid hr
          have HB_ := Lib.hid (HB.out.kept hg (by omega))
          clear hg hr HG HR HB
          have HG := HG_
          have HR := HR_
          have HB := HB_
          clear HG_ HR_ HB_
          obtain ⟨lHB, cHB, fHB⟩ := HB.out.see
          have HPUT := Lib.hid (Put.set (Put.set (Put.set (Put.refl W.heap.size (B + 1) w5) (p := ⟨B, 3, none⟩) (by simp only; omega) (by simp only; omega) (.int .i64 tk)) (p := ⟨B, 4, none⟩) (by simp only; omega) (by simp only; omega) (.string tn)) (p := ⟨B, 5, none⟩) (by simp only; omega) (by simp only; omega) (.slice A tl.length c))
          have HG_ := Lib.hid (HPUT.out.grown HG.out (Nat.le_refl _))
          have HR_ := Lib.hid (HR.out.put HPUT.out hR)
          have HB_ : Hid (Bx 65 (((w5.setCell ⟨B, 3, none⟩ (.int .i64 tk)).setCell ⟨B, 4, none⟩ (.string tn)).setCell ⟨B, 5, none⟩ (.slice A tl.length c)) B #[.int .i64 0, .int .i64 at_, .string n, .int .i64 tk, .string tn, .slice A tl.length c, .string ⟨#[]⟩, .slice none 0 0, .int .i64 0, .slice none 0 0, .string ⟨#[]⟩, .slice none 0 0, .string ⟨#[]⟩, .string ⟨#[]⟩, .bool false, .int .i64 0, .string ⟨#[]⟩, .slice none 0 0, .slice none 0 0, .slice none 0 0, .slice none 0 0]) := Lib.hid (by have h := (((HB.out.set 3 (.int .i64 tk)).set 4 (.string tn)).set 5 (.slice A tl.length c)); simpa using h)
          have HT_ := Lib.hid (HT.out.step (fun k hk _ => HPUT.out.block k (.inr (by omega))))
          clear HPUT HG HR HB HT
          have HG := HG_
          have HR := HR_
          have HB := HB_
          have HT := HT_
          clear HG_ HR_ HB_ HT_
          go_wp2_with fail
          clear lHB cHB fHB
          generalize (((w5.setCell ⟨B, 3, none⟩ (.int .i64 tk)).setCell ⟨B, 4, none⟩ (.string tn)).setCell ⟨B, 5, none⟩ (.slice A tl.length c)) = w6 at *
          refine (must_rd HR.out ⟨#[61]⟩).mono ?_
          rintro e w7 ⟨hg, ⟨⟨⟩, us4, v, hp, rfl, rfl, hr, hle⟩ | ⟨er, at9, hp, rfl⟩⟩
          · skip
            have HP5 := Lib.hid hp
            have HLE5 := Lib.hid hle
            clear hp hle
            have HG_ := Lib.hid (World.grownBy.trans HG.out hg)
            have HR_ := Lib.hid hr
            have HB_ := Lib.hid (HB.out.kept hg (by omega))
            have HT_ := Lib.hid (HT.out.grown hg (fun k hk e => by injection e; omega))
            clear hg hr HG HR HB HT
            have HG := HG_
            have HR := HR_
            have HB := HB_
            have HT := HT_
            clear HG_ HR_ HB_ HT_
            go_wp2_with fail
            refine (set_rd HR.out).mono ?_
            rintro e w8 ⟨hg, ⟨r, us5, v, hp, rfl, hv, hr, hle⟩ | ⟨er, at9, hp, rfl⟩⟩
            · skip
              obtain ⟨rk, ops, pn, pl, rn, rv, A9, c9, A8, c8, rfl, rfl, hl, hl2⟩ := hv.rv
              have hm3 := blk_lt HB.out
              have HV1 := Lib.hid (hl.mono (ok' := fun j => B < j) (fun k hk => by omega))
              clear hm3
              have hm3 := blk_lt HB.out
              have HV2 := Lib.hid (hl2.mono (ok' := fun j => B < j) (fun k hk => by omega))
              clear hm3
              clear hl hl2 hv
              have HP6 := Lib.hid hp
              have HLE6 := Lib.hid hle
              clear hp hle
              have HG_ := Lib.hid (World.grownBy.trans HG.out hg)
              have HR_ := Lib.hid hr
              have HB_ := Lib.hid (HB.out.kept hg (by omega))
              have HT_ := Lib.hid (HT.out.grown hg (fun k hk e => by injection e; omega))
              clear hg hr HG HR HB HT
              have HG := HG_
              have HR := HR_
              have HB := HB_
              have HT := HT_
              clear HG_ HR_ HB_ HT_
              obtain ⟨lHB, cHB, fHB⟩ := HB.out.see
              have HPUT := Lib.hid (Put.set (Put.set (Put.set (Put.set (Put.set (Put.set (Put.refl W.heap.size (B + 1) w8) (p := ⟨B, 8, none⟩) (by simp only; omega) (by simp only; omega) (.int .i64 rk)) (p := ⟨B, 9, none⟩) (by simp only; omega) (by simp only; omega) (.slice A9 ops.length c9)) (p := ⟨B, 10, none⟩) (by simp only; omega) (by simp only; omega) (.string pn)) (p := ⟨B, 11, none⟩) (by simp only; omega) (by simp only; omega) (.slice A8 pl.length c8)) (p := ⟨B, 12, none⟩) (by simp only; omega) (by simp only; omega) (.string rn)) (p := ⟨B, 13, none⟩) (by simp only; omega) (by simp only; omega) (.string rv))
              have HG_ := Lib.hid (HPUT.out.grown HG.out (Nat.le_refl _))
              have HR_ := Lib.hid (HR.out.put HPUT.out hR)
              have HB_ : Hid (Bx 65 ((((((w8.setCell ⟨B, 8, none⟩ (.int .i64 rk)).setCell ⟨B, 9, none⟩ (.slice A9 ops.length c9)).setCell ⟨B, 10, none⟩ (.string pn)).setCell ⟨B, 11, none⟩ (.slice A8 pl.length c8)).setCell ⟨B, 12, none⟩ (.string rn)).setCell ⟨B, 13, none⟩ (.string rv)) B #[.int .i64 0, .int .i64 at_, .string n, .int .i64 tk, .string tn, .slice A tl.length c, .string ⟨#[]⟩, .slice none 0 0, .int .i64 rk, .slice A9 ops.length c9, .string pn, .slice A8 pl.length c8, .string rn, .string rv, .bool false, .int .i64 0, .string ⟨#[]⟩, .slice none 0 0, .slice none 0 0, .slice none 0 0, .slice none 0 0]) := Lib.hid (by have h := ((((((HB.out.set 8 (.int .i64 rk)).set 9 (.slice A9 ops.length c9)).set 10 (.string pn)).set 11 (.slice A8 pl.length c8)).set 12 (.string rn)).set 13 (.string rv)); simpa using h)
              have HT_ := Lib.hid (HT.out.step (fun k hk _ => HPUT.out.block k (.inr (by omega))))
              have HV1_ := Lib.hid (HV1.out.step (fun k hk _ => HPUT.out.block k (.inr (by omega))))
              have HV2_ := Lib.hid (HV2.out.step (fun k hk _ => HPUT.out.block k (.inr (by omega))))
              clear HPUT HG HR HB HT HV1 HV2
              have HG := HG_
              have HR := HR_
              have HB := HB_
              have HT := HT_
              have HV1 := HV1_
              have HV2 := HV2_
              clear HG_ HR_ HB_ HT_ HV1_ HV2_
              go_wp2_with fail
              clear lHB cHB fHB
              generalize ((((((w8.setCell ⟨B, 8, none⟩ (.int .i64 rk)).setCell ⟨B, 9, none⟩ (.slice A9 ops.length c9)).setCell ⟨B, 10, none⟩ (.string pn)).setCell ⟨B, 11, none⟩ (.slice A8 pl.length c8)).setCell ⟨B, 12, none⟩ (.string rn)).setCell ⟨B, 13, none⟩ (.string rv)) = w9 at *
              have HPF : Hid (simpleP at_ ts = .ok (.mk 0 at_ n (.mk tk tn tl) .zero ⟨rk, ops, ⟨pn, pl⟩, rn, rv⟩ .zero [] [] [], us5)) := Lib.hid (by rw [simpleP, optE_t HW1.out, Ps.bd_ok HP2.out, Ps.bd_ok HP3.out, Ps.bd_ok HP4.out, Ps.bd_ok HP5.out, Ps.bd_ok HP6.out]; exact rfl)
              go_end0
              exact ⟨HG.out, .inl ⟨.mk 0 at_ n (.mk tk tn tl) .zero ⟨rk, ops, ⟨pn, pl⟩, rn, rv⟩ .zero [] [] [], us5, [.int .i64 0, .int .i64 at_, .string n, .int .i64 tk, .string tn, .slice A tl.length c, .string ⟨#[]⟩, .slice none 0 0, .int .i64 rk, .slice A9 ops.length c9, .string pn, .slice A8 pl.length c8, .string rn, .string rv, .bool false, .int .i64 0, .string ⟨#[]⟩, .slice none 0 0, .slice none 0 0, .slice none 0 0, .slice none 0 0], HPF.out, rfl, HB.out, stm_rds HT.out (Rd.nil _ _ _ _) HV1.out HV2.out (Rd.nil _ _ _ _) (by simp only [Stm.ds]; exact (Rd.nil _ _ _ _)) (by simp only [Stm.ds]; exact (Rd.nil _ _ _ _)) (by simp only [Arm.ds]; exact (Rd.nil _ _ _ _)), HR.out, by have := HLT1.out; have := HLE2.out; have := HLE3.out; have := HLE4.out; have := HLE5.out; have := HLE6.out; first | omega | (simp at *; done) | (simp at *; omega)⟩⟩
            · go_wp2_with fail
              exact ⟨rfl, World.grownBy.trans HG.out hg, .inr ⟨er, at9, (by rw [simpleP, optE_t HW1.out, Ps.bd_ok HP2.out, Ps.bd_ok HP3.out, Ps.bd_ok HP4.out, Ps.bd_ok HP5.out]; exact Ps.bd_err hp), rfl⟩⟩
          · go_wp2_with fail
            exact ⟨rfl, World.grownBy.trans HG.out hg, .inr ⟨er, at9, (by rw [simpleP, optE_t HW1.out, Ps.bd_ok HP2.out, Ps.bd_ok HP3.out, Ps.bd_ok HP4.out]; exact Ps.bd_err hp), rfl⟩⟩
        · go_wp2_with fail
          exact ⟨rfl, World.grownBy.trans HG.out hg, .inr ⟨er, at9, (by rw [simpleP, optE_t HW1.out, Ps.bd_ok HP2.out, Ps.bd_ok HP3.out]; exact Ps.bd_err hp), rfl⟩⟩
      · go_wp2_with fail
        exact ⟨rfl, World.grownBy.trans HG.out hg, .inr ⟨er, at9, (by rw [simpleP, optE_t HW1.out, Ps.bd_ok HP2.out]; exact Ps.bd_err hp), rfl⟩⟩
    · go_wp2_with fail
      exact ⟨rfl, World.grownBy.trans HG.out hg, .inr ⟨er, at9, (by rw [simpleP, optE_t HW1.out]; exact Ps.bd_err hp), rfl⟩⟩
  · skip
    have HW1 := Lib.hid hw
    clear hw
    have HG_ := Lib.hid (World.grownBy.trans HG.out hg)
    have HR_ := Lib.hid hr
    have HB_ := Lib.hid (HB.out.kept hg (by omega))
    clear hg hr HG HR HB
    have HG := HG_
    have HR := HR_
    have HB := HB_
    clear HG_ HR_ HB_
    go_wp2_with fail
    refine (opt_rd HR.out ⟨#[121, 105, 101, 108, 100]⟩).mono ?_
    rintro e w10 ⟨hg, ⟨hw, rfl, hr⟩ | ⟨hw, rfl, hr⟩⟩
    · skip
      have HW7 := Lib.hid hw
      have HLT7 := Lib.hid (isW_pos hw)
      clear hw
      have HG_ := Lib.hid (World.grownBy.trans HG.out hg)
      have HR_ := Lib.hid hr
      have HB_ := Lib.hid (HB.out.kept hg (by omega))
      clear hg hr HG HR HB
      have HG := HG_
      have HR := HR_
      have HB := HB_
      clear HG_ HR_ HB_
      go_wp2_with fail
      refine (oper_rd HR.out).mono ?_
      rintro e w11 ⟨hg, ⟨o, us2, v, hp, rfl, hv, hr, hle⟩ | ⟨er, at9, hp, rfl⟩⟩
      · skip
        obtain ⟨ob, on, om, ol, A, c, rfl, rfl, hl⟩ := hv.opr
        have hm3 := blk_lt HB.out
        have HO := Lib.hid (hl.mono (ok' := fun j => B < j) (fun k hk => by omega))
        clear hm3
        clear hl hv
        have HP8 := Lib.hid hp
        have HLE8 := Lib.hid hle
        clear hp hle
        have HG_ := Lib.hid (World.grownBy.trans HG.out hg)
        have HR_ := Lib.hid hr
        have HB_ := Lib.hid (HB.out.kept hg (by omega))
        clear hg hr HG HR HB
        have HG := HG_
        have HR := HR_
        have HB := HB_
        clear HG_ HR_ HB_
        obtain ⟨lHB, cHB, fHB⟩ := HB.out.see
        have HPUT := Lib.hid (Put.set (Put.set (Put.set (Put.set (Put.set (Put.refl W.heap.size (B + 1) w11) (p := ⟨B, 0, none⟩) (by simp only; omega) (by simp only; omega) (.int .i64 5)) (p := ⟨B, 14, none⟩) (by simp only; omega) (by simp only; omega) (.bool ob)) (p := ⟨B, 15, none⟩) (by simp only; omega) (by simp only; omega) (.int .i64 on)) (p := ⟨B, 16, none⟩) (by simp only; omega) (by simp only; omega) (.string om)) (p := ⟨B, 17, none⟩) (by simp only; omega) (by simp only; omega) (.slice A ol.length c))
        have HG_ := Lib.hid (HPUT.out.grown HG.out (Nat.le_refl _))
        have HR_ := Lib.hid (HR.out.put HPUT.out hR)
        have HB_ : Hid (Bx 65 (((((w11.setCell ⟨B, 0, none⟩ (.int .i64 5)).setCell ⟨B, 14, none⟩ (.bool ob)).setCell ⟨B, 15, none⟩ (.int .i64 on)).setCell ⟨B, 16, none⟩ (.string om)).setCell ⟨B, 17, none⟩ (.slice A ol.length c)) B #[.int .i64 5, .int .i64 at_, .string ⟨#[]⟩, .int .i64 0, .string ⟨#[]⟩, .slice none 0 0, .string ⟨#[]⟩, .slice none 0 0, .int .i64 0, .slice none 0 0, .string ⟨#[]⟩, .slice none 0 0, .string ⟨#[]⟩, .string ⟨#[]⟩, .bool ob, .int .i64 on, .string om, .slice A ol.length c, .slice none 0 0, .slice none 0 0, .slice none 0 0]) := Lib.hid (by have h := (((((HB.out.set 0 (.int .i64 5)).set 14 (.bool ob)).set 15 (.int .i64 on)).set 16 (.string om)).set 17 (.slice A ol.length c)); simpa using h)
        have HO_ := Lib.hid (HO.out.step (fun k hk _ => HPUT.out.block k (.inr (by omega))))
        clear HPUT HG HR HB HO
        have HG := HG_
        have HR := HR_
        have HB := HB_
        have HO := HO_
        clear HG_ HR_ HB_ HO_
        go_wp2_with fail
        clear lHB cHB fHB
        generalize (((((w11.setCell ⟨B, 0, none⟩ (.int .i64 5)).setCell ⟨B, 14, none⟩ (.bool ob)).setCell ⟨B, 15, none⟩ (.int .i64 on)).setCell ⟨B, 16, none⟩ (.string om)).setCell ⟨B, 17, none⟩ (.slice A ol.length c)) = w12 at *
        have HPF : Hid (simpleP at_ ts = .ok (.mk 5 at_ noB .zero .zero .zero ⟨ob, on, ⟨om, ol⟩⟩ [] [] [], us2)) := Lib.hid (by rw [simpleP, optE_f HW1.out, optE_t HW7.out, Ps.bd_ok HP8.out]; exact rfl)
        go_end0
        exact ⟨HG.out, .inl ⟨.mk 5 at_ noB .zero .zero .zero ⟨ob, on, ⟨om, ol⟩⟩ [] [] [], us2, [.int .i64 5, .int .i64 at_, .string ⟨#[]⟩, .int .i64 0, .string ⟨#[]⟩, .slice none 0 0, .string ⟨#[]⟩, .slice none 0 0, .int .i64 0, .slice none 0 0, .string ⟨#[]⟩, .slice none 0 0, .string ⟨#[]⟩, .string ⟨#[]⟩, .bool ob, .int .i64 on, .string om, .slice A ol.length c, .slice none 0 0, .slice none 0 0, .slice none 0 0], HPF.out, rfl, HB.out, stm_rds (by simp only [Ty.ds]; exact (Rd.nil _ _ _ _)) (Rd.nil _ _ _ _) (Rd.nil _ _ _ _) (Rd.nil _ _ _ _) HO.out (by simp only [Stm.ds]; exact (Rd.nil _ _ _ _)) (by simp only [Stm.ds]; exact (Rd.nil _ _ _ _)) (by simp only [Arm.ds]; exact (Rd.nil _ _ _ _)), HR.out, by have := HLT7.out; have := HLE8.out; first | omega | (simp at *; done) | (simp at *; omega)⟩⟩
      · go_wp2_with fail
        exact ⟨rfl, World.grownBy.trans HG.out hg, .inr ⟨er, at9, (by rw [simpleP, optE_f HW1.out, optE_t HW7.out]; exact Ps.bd_err hp), rfl⟩⟩
    · skip
      have HW7 := Lib.hid hw
      clear hw
      have HG_ := Lib.hid (World.grownBy.trans HG.out hg)
      have HR_ := Lib.hid hr
      have HB_ := Lib.hid (HB.out.kept hg (by omega))
      clear hg hr HG HR HB
      have HG := HG_
      have HR := HR_
      have HB := HB_
      clear HG_ HR_ HB_
      go_wp2_with fail
      refine (opt_rd HR.out ⟨#[114, 101, 116, 117, 114, 110]⟩).mono ?_
      rintro e w13 ⟨hg, ⟨hw, rfl, hr⟩ | ⟨hw, rfl, hr⟩⟩
      · skip
        have HW9 := Lib.hid hw
        have HLT9 := Lib.hid (isW_pos hw)
        clear hw
        have HG_ := Lib.hid (World.grownBy.trans HG.out hg)
        have HR_ := Lib.hid hr
        have HB_ := Lib.hid (HB.out.kept hg (by omega))
        clear hg hr HG HR HB
        have HG := HG_
        have HR := HR_
        have HB := HB_
        clear HG_ HR_ HB_
        go_wp2_with fail
        refine (oper_rd HR.out).mono ?_
        rintro e w14 ⟨hg, ⟨o, us2, v, hp, rfl, hv, hr, hle⟩ | ⟨er, at9, hp, rfl⟩⟩
        · skip
          obtain ⟨ob, on, om, ol, A, c, rfl, rfl, hl⟩ := hv.opr
          have hm3 := blk_lt HB.out
          have HO := Lib.hid (hl.mono (ok' := fun j => B < j) (fun k hk => by omega))
          clear hm3
          clear hl hv
          have HP10 := Lib.hid hp
          have HLE10 := Lib.hid hle
          clear hp hle
          have HG_ := Lib.hid (World.grownBy.trans HG.out hg)
          have HR_ := Lib.hid hr
          have HB_ := Lib.hid (HB.out.kept hg (by omega))
          clear hg hr HG HR HB
          have HG := HG_
          have HR := HR_
          have HB := HB_
          clear HG_ HR_ HB_
          obtain ⟨lHB, cHB, fHB⟩ := HB.out.see
          have HPUT := Lib.hid (Put.set (Put.set (Put.set (Put.set (Put.set (Put.refl W.heap.size (B + 1) w14) (p := ⟨B, 0, none⟩) (by simp only; omega) (by simp only; omega) (.int .i64 6)) (p := ⟨B, 14, none⟩) (by simp only; omega) (by simp only; omega) (.bool ob)) (p := ⟨B, 15, none⟩) (by simp only; omega) (by simp only; omega) (.int .i64 on)) (p := ⟨B, 16, none⟩) (by simp only; omega) (by simp only; omega) (.string om)) (p := ⟨B, 17, none⟩) (by simp only; omega) (by simp only; omega) (.slice A ol.length c))
          have HG_ := Lib.hid (HPUT.out.grown HG.out (Nat.le_refl _))
          have HR_ := Lib.hid (HR.out.put HPUT.out hR)
          have HB_ : Hid (Bx 65 (((((w14.setCell ⟨B, 0, none⟩ (.int .i64 6)).setCell ⟨B, 14, none⟩ (.bool ob)).setCell ⟨B, 15, none⟩ (.int .i64 on)).setCell ⟨B, 16, none⟩ (.string om)).setCell ⟨B, 17, none⟩ (.slice A ol.length c)) B #[.int .i64 6, .int .i64 at_, .string ⟨#[]⟩, .int .i64 0, .string ⟨#[]⟩, .slice none 0 0, .string ⟨#[]⟩, .slice none 0 0, .int .i64 0, .slice none 0 0, .string ⟨#[]⟩, .slice none 0 0, .string ⟨#[]⟩, .string ⟨#[]⟩, .bool ob, .int .i64 on, .string om, .slice A ol.length c, .slice none 0 0, .slice none 0 0, .slice none 0 0]) := Lib.hid (by have h := (((((HB.out.set 0 (.int .i64 6)).set 14 (.bool ob)).set 15 (.int .i64 on)).set 16 (.string om)).set 17 (.slice A ol.length c)); simpa using h)
          have HO_ := Lib.hid (HO.out.step (fun k hk _ => HPUT.out.block k (.inr (by omega))))
          clear HPUT HG HR HB HO
          have HG := HG_
          have HR := HR_
          have HB := HB_
          have HO := HO_
          clear HG_ HR_ HB_ HO_
          go_wp2_with fail
          clear lHB cHB fHB
          generalize (((((w14.setCell ⟨B, 0, none⟩ (.int .i64 6)).setCell ⟨B, 14, none⟩ (.bool ob)).setCell ⟨B, 15, none⟩ (.int .i64 on)).setCell ⟨B, 16, none⟩ (.string om)).setCell ⟨B, 17, none⟩ (.slice A ol.length c)) = w15 at *
          have HPF : Hid (simpleP at_ ts = .ok (.mk 6 at_ noB .zero .zero .zero ⟨ob, on, ⟨om, ol⟩⟩ [] [] [], us2)) := Lib.hid (by rw [simpleP, optE_f HW1.out, optE_f HW7.out, optE_t HW9.out, Ps.bd_ok HP10.out]; exact rfl)
          go_end0
          exact ⟨HG.out, .inl ⟨.mk 6 at_ noB .zero .zero .zero ⟨ob, on, ⟨om, ol⟩⟩ [] [] [], us2, [.int .i64 6, .int .i64 at_, .string ⟨#[]⟩, .int .i64 0, .string ⟨#[]⟩, .slice none 0 0, .string ⟨#[]⟩, .slice none 0 0, .int .i64 0, .slice none 0 0, .string ⟨#[]⟩, .slice none 0 0, .string ⟨#[]⟩, .string ⟨#[]⟩, .bool ob, .int .i64 on, .string om, .slice A ol.length c, .slice none 0 0, .slice none 0 0, .slice none 0 0], HPF.out, rfl, HB.out, stm_rds (by simp only [Ty.ds]; exact (Rd.nil _ _ _ _)) (Rd.nil _ _ _ _) (Rd.nil _ _ _ _) (Rd.nil _ _ _ _) HO.out (by simp only [Stm.ds]; exact (Rd.nil _ _ _ _)) (by simp only [Stm.ds]; exact (Rd.nil _ _ _ _)) (by simp only [Arm.ds]; exact (Rd.nil _ _ _ _)), HR.out, by have := HLT9.out; have := HLE10.out; first | omega | (simp at *; done) | (simp at *; omega)⟩⟩
        · go_wp2_with fail
          exact ⟨rfl, World.grownBy.trans HG.out hg, .inr ⟨er, at9, (by rw [simpleP, optE_f HW1.out, optE_f HW7.out, optE_t HW9.out]; exact Ps.bd_err hp), rfl⟩⟩
      · skip
        have HW9 := Lib.hid hw
        clear hw
        have HG_ := Lib.hid (World.grownBy.trans HG.out hg)
        have HR_ := Lib.hid hr
        have HB_ := Lib.hid (HB.out.kept hg (by omega))
        clear hg hr HG HR HB
        have HG := HG_
        have HR := HR_
        have HB := HB_
        clear HG_ HR_ HB_
        go_wp2_with fail
        refine (opt_rd HR.out ⟨#[112, 114, 105, 110, 116]⟩).mono ?_
        rintro e w16 ⟨hg, ⟨hw, rfl, hr⟩ | ⟨hw, rfl, hr⟩⟩
        · skip
          have HW11 := Lib.hid hw
          have HLT11 := Lib.hid (isW_pos hw)
          clear hw
          have HG_ := Lib.hid (World.grownBy.trans HG.out hg)
          have HR_ := Lib.hid hr
          have HB_ := Lib.hid (HB.out.kept hg (by omega))
          clear hg hr HG HR HB
          have HG := HG_
          have HR := HR_
          have HB := HB_
          clear HG_ HR_ HB_
          go_wp2_with fail
          refine (oper_rd HR.out).mono ?_
          rintro e w17 ⟨hg, ⟨o, us2, v, hp, rfl, hv, hr, hle⟩ | ⟨er, at9, hp, rfl⟩⟩
          · skip
            obtain ⟨ob, on, om, ol, A, c, rfl, rfl, hl⟩ := hv.opr
            have hm3 := blk_lt HB.out
            have HO := Lib.hid (hl.mono (ok' := fun j => B < j) (fun k hk => by omega))
            clear hm3
            clear hl hv
            have HP12 := Lib.hid hp
            have HLE12 := Lib.hid hle
            clear hp hle
            have HG_ := Lib.hid (World.grownBy.trans HG.out hg)
            have HR_ := Lib.hid hr
            have HB_ := Lib.hid (HB.out.kept hg (by omega))
            clear hg hr HG HR HB
            have HG := HG_
            have HR := HR_
            have HB := HB_
            clear HG_ HR_ HB_
            obtain ⟨lHB, cHB, fHB⟩ := HB.out.see
            have HPUT := Lib.hid (Put.set (Put.set (Put.set (Put.set (Put.set (Put.refl W.heap.size (B + 1) w17) (p := ⟨B, 0, none⟩) (by simp only; omega) (by simp only; omega) (.int .i64 7)) (p := ⟨B, 14, none⟩) (by simp only; omega) (by simp only; omega) (.bool ob)) (p := ⟨B, 15, none⟩) (by simp only; omega) (by simp only; omega) (.int .i64 on)) (p := ⟨B, 16, none⟩) (by simp only; omega) (by simp only; omega) (.string om)) (p := ⟨B, 17, none⟩) (by simp only; omega) (by simp only; omega) (.slice A ol.length c))
            have HG_ := Lib.hid (HPUT.out.grown HG.out (Nat.le_refl _))
            have HR_ := Lib.hid (HR.out.put HPUT.out hR)
            have HB_ : Hid (Bx 65 (((((w17.setCell ⟨B, 0, none⟩ (.int .i64 7)).setCell ⟨B, 14, none⟩ (.bool ob)).setCell ⟨B, 15, none⟩ (.int .i64 on)).setCell ⟨B, 16, none⟩ (.string om)).setCell ⟨B, 17, none⟩ (.slice A ol.length c)) B #[.int .i64 7, .int .i64 at_, .string ⟨#[]⟩, .int .i64 0, .string ⟨#[]⟩, .slice none 0 0, .string ⟨#[]⟩, .slice none 0 0, .int .i64 0, .slice none 0 0, .string ⟨#[]⟩, .slice none 0 0, .string ⟨#[]⟩, .string ⟨#[]⟩, .bool ob, .int .i64 on, .string om, .slice A ol.length c, .slice none 0 0, .slice none 0 0, .slice none 0 0]) := Lib.hid (by have h := (((((HB.out.set 0 (.int .i64 7)).set 14 (.bool ob)).set 15 (.int .i64 on)).set 16 (.string om)).set 17 (.slice A ol.length c)); simpa using h)
            have HO_ := Lib.hid (HO.out.step (fun k hk _ => HPUT.out.block k (.inr (by omega))))
            clear HPUT HG HR HB HO
            have HG := HG_
            have HR := HR_
            have HB := HB_
            have HO := HO_
            clear HG_ HR_ HB_ HO_
            go_wp2_with fail
            clear lHB cHB fHB
            generalize (((((w17.setCell ⟨B, 0, none⟩ (.int .i64 7)).setCell ⟨B, 14, none⟩ (.bool ob)).setCell ⟨B, 15, none⟩ (.int .i64 on)).setCell ⟨B, 16, none⟩ (.string om)).setCell ⟨B, 17, none⟩ (.slice A ol.length c)) = w18 at *
            have HPF : Hid (simpleP at_ ts = .ok (.mk 7 at_ noB .zero .zero .zero ⟨ob, on, ⟨om, ol⟩⟩ [] [] [], us2)) := Lib.hid (by rw [simpleP, optE_f HW1.out, optE_f HW7.out, optE_f HW9.out, optE_t HW11.out, Ps.bd_ok HP12.out]; exact rfl)
            go_end0
            exact ⟨HG.out, .inl ⟨.mk 7 at_ noB .zero .zero .zero ⟨ob, on, ⟨om, ol⟩⟩ [] [] [], us2, [.int .i64 7, .int .i64 at_, .string ⟨#[]⟩, .int .i64 0, .string ⟨#[]⟩, .slice none 0 0, .string ⟨#[]⟩, .slice none 0 0, .int .i64 0, .slice none 0 0, .string ⟨#[]⟩, .slice none 0 0, .string ⟨#[]⟩, .string ⟨#[]⟩, .bool ob, .int .i64 on, .string om, .slice A ol.length c, .slice none 0 0, .slice none 0 0, .slice none 0 0], HPF.out, rfl, HB.out, stm_rds (by simp only [Ty.ds]; exact (Rd.nil _ _ _ _)) (Rd.nil _ _ _ _) (Rd.nil _ _ _ _) (Rd.nil _ _ _ _) HO.out (by simp only [Stm.ds]; exact (Rd.nil _ _ _ _)) (by simp only [Stm.ds]; exact (Rd.nil _ _ _ _)) (by simp only [Arm.ds]; exact (Rd.nil _ _ _ _)), HR.out, by have := HLT11.out; have := HLE12.out; first | omega | (simp at *; done) | (simp at *; omega)⟩⟩
          · go_wp2_with fail
            exact ⟨rfl, World.grownBy.trans HG.out hg, .inr ⟨er, at9, (by rw [simpleP, optE_f HW1.out, optE_f HW7.out, optE_f HW9.out, optE_t HW11.out]; exact Ps.bd_err hp), rfl⟩⟩
        · skip
          have HW11 := Lib.hid hw
          clear hw
          have HG_ := Lib.hid (World.grownBy.trans HG.out hg)
          have HR_ := Lib.hid hr
          have HB_ := Lib.hid (HB.out.kept hg (by omega))
          clear hg hr HG HR HB
          have HG := HG_
          have HR := HR_
          have HB := HB_
          clear HG_ HR_ HB_
          go_wp2_with fail
          refine (opt_rd HR.out ⟨#[100, 114, 111, 112]⟩).mono ?_
          rintro e w19 ⟨hg, ⟨hw, rfl, hr⟩ | ⟨hw, rfl, hr⟩⟩
          · skip
            have HW13 := Lib.hid hw
            have HLT13 := Lib.hid (isW_pos hw)
            clear hw
            have HG_ := Lib.hid (World.grownBy.trans HG.out hg)
            have HR_ := Lib.hid hr
            have HB_ := Lib.hid (HB.out.kept hg (by omega))
            clear hg hr HG HR HB
            have HG := HG_
            have HR := HR_
            have HB := HB_
            clear HG_ HR_ HB_
            go_wp2_with fail
            refine (bare_rd HR.out).mono ?_
            rintro e w20 ⟨hg, ⟨p, us2, v, hp, rfl, hv, hr, hle⟩ | ⟨er, at9, hp, rfl⟩⟩
            · skip
              obtain ⟨qn, ql, A, c, rfl, rfl, hl⟩ := hv.plc
              have hm3 := blk_lt HB.out
              have HQ := Lib.hid (hl.mono (ok' := fun j => B < j) (fun k hk => by omega))
              clear hm3
              clear hl hv
              have HP14 := Lib.hid hp
              have HLE14 := Lib.hid hle
              clear hp hle
              have HG_ := Lib.hid (World.grownBy.trans HG.out hg)
              have HR_ := Lib.hid hr
              have HB_ := Lib.hid (HB.out.kept hg (by omega))
              clear hg hr HG HR HB
              have HG := HG_
              have HR := HR_
              have HB := HB_
              clear HG_ HR_ HB_
              obtain ⟨lHB, cHB, fHB⟩ := HB.out.see
              have HPUT := Lib.hid (Put.set (Put.set (Put.set (Put.refl W.heap.size (B + 1) w20) (p := ⟨B, 0, none⟩) (by simp only; omega) (by simp only; omega) (.int .i64 8)) (p := ⟨B, 6, none⟩) (by simp only; omega) (by simp only; omega) (.string qn)) (p := ⟨B, 7, none⟩) (by simp only; omega) (by simp only; omega) (.slice A ql.length c))
              have HG_ := Lib.hid (HPUT.out.grown HG.out (Nat.le_refl _))
              have HR_ := Lib.hid (HR.out.put HPUT.out hR)
              have HB_ : Hid (Bx 65 (((w20.setCell ⟨B, 0, none⟩ (.int .i64 8)).setCell ⟨B, 6, none⟩ (.string qn)).setCell ⟨B, 7, none⟩ (.slice A ql.length c)) B #[.int .i64 8, .int .i64 at_, .string ⟨#[]⟩, .int .i64 0, .string ⟨#[]⟩, .slice none 0 0, .string qn, .slice A ql.length c, .int .i64 0, .slice none 0 0, .string ⟨#[]⟩, .slice none 0 0, .string ⟨#[]⟩, .string ⟨#[]⟩, .bool false, .int .i64 0, .string ⟨#[]⟩, .slice none 0 0, .slice none 0 0, .slice none 0 0, .slice none 0 0]) := Lib.hid (by have h := (((HB.out.set 0 (.int .i64 8)).set 6 (.string qn)).set 7 (.slice A ql.length c)); simpa using h)
              have HQ_ := Lib.hid (HQ.out.step (fun k hk _ => HPUT.out.block k (.inr (by omega))))
              clear HPUT HG HR HB HQ
              have HG := HG_
              have HR := HR_
              have HB := HB_
              have HQ := HQ_
              clear HG_ HR_ HB_ HQ_
              go_wp2_with fail
              clear lHB cHB fHB
              generalize (((w20.setCell ⟨B, 0, none⟩ (.int .i64 8)).setCell ⟨B, 6, none⟩ (.string qn)).setCell ⟨B, 7, none⟩ (.slice A ql.length c)) = w21 at *
              have HPF : Hid (simpleP at_ ts = .ok (.mk 8 at_ noB .zero ⟨qn, ql⟩ .zero .zero [] [] [], us2)) := Lib.hid (by rw [simpleP, optE_f HW1.out, optE_f HW7.out, optE_f HW9.out, optE_f HW11.out, optE_t HW13.out, Ps.bd_ok HP14.out]; exact rfl)
              go_end0
              exact ⟨HG.out, .inl ⟨.mk 8 at_ noB .zero ⟨qn, ql⟩ .zero .zero [] [] [], us2, [.int .i64 8, .int .i64 at_, .string ⟨#[]⟩, .int .i64 0, .string ⟨#[]⟩, .slice none 0 0, .string qn, .slice A ql.length c, .int .i64 0, .slice none 0 0, .string ⟨#[]⟩, .slice none 0 0, .string ⟨#[]⟩, .string ⟨#[]⟩, .bool false, .int .i64 0, .string ⟨#[]⟩, .slice none 0 0, .slice none 0 0, .slice none 0 0, .slice none 0 0], HPF.out, rfl, HB.out, stm_rds (by simp only [Ty.ds]; exact (Rd.nil _ _ _ _)) HQ.out (Rd.nil _ _ _ _) (Rd.nil _ _ _ _) (Rd.nil _ _ _ _) (by simp only [Stm.ds]; exact (Rd.nil _ _ _ _)) (by simp only [Stm.ds]; exact (Rd.nil _ _ _ _)) (by simp only [Arm.ds]; exact (Rd.nil _ _ _ _)), HR.out, by have := HLT13.out; have := HLE14.out; first | omega | (simp at *; done) | (simp at *; omega)⟩⟩
            · go_wp2_with fail
              exact ⟨rfl, World.grownBy.trans HG.out hg, .inr ⟨er, at9, (by rw [simpleP, optE_f HW1.out, optE_f HW7.out, optE_f HW9.out, optE_f HW11.out, optE_t HW13.out]; exact Ps.bd_err hp), rfl⟩⟩
          · skip
            have HW13 := Lib.hid hw
            clear hw
            have HG_ := Lib.hid (World.grownBy.trans HG.out hg)
            have HR_ := Lib.hid hr
            have HB_ := Lib.hid (HB.out.kept hg (by omega))
            clear hg hr HG HR HB
            have HG := HG_
            have HR := HR_
            have HB := HB_
            clear HG_ HR_ HB_
            go_wp2_with fail
            refine (place_rd HR.out).mono ?_
            rintro e w22 ⟨hg, ⟨p, us2, v, hp, rfl, hv, hr, hle⟩ | ⟨er, at9, hp, rfl⟩⟩
            · skip
              obtain ⟨qn, ql, A, c, rfl, rfl, hl⟩ := hv.plc
              have hm3 := blk_lt HB.out
              have HQ := Lib.hid (hl.mono (ok' := fun j => B < j) (fun k hk => by omega))
              clear hm3
              clear hl hv
              have HP15 := Lib.hid hp
              have HLE15 := Lib.hid hle
              clear hp hle
              have HG_ := Lib.hid (World.grownBy.trans HG.out hg)
              have HR_ := Lib.hid hr
              have HB_ := Lib.hid (HB.out.kept hg (by omega))
              clear hg hr HG HR HB
              have HG := HG_
              have HR := HR_
              have HB := HB_
              clear HG_ HR_ HB_
              obtain ⟨lHB, cHB, fHB⟩ := HB.out.see
              have HPUT := Lib.hid (Put.set (Put.set (Put.set (Put.refl W.heap.size (B + 1) w22) (p := ⟨B, 0, none⟩) (by simp only; omega) (by simp only; omega) (.int .i64 1)) (p := ⟨B, 6, none⟩) (by simp only; omega) (by simp only; omega) (.string qn)) (p := ⟨B, 7, none⟩) (by simp only; omega) (by simp only; omega) (.slice A ql.length c))
              have HG_ := Lib.hid (HPUT.out.grown HG.out (Nat.le_refl _))
              have HR_ := Lib.hid (HR.out.put HPUT.out hR)
              have HB_ : Hid (Bx 65 (((w22.setCell ⟨B, 0, none⟩ (.int .i64 1)).setCell ⟨B, 6, none⟩ (.string qn)).setCell ⟨B, 7, none⟩ (.slice A ql.length c)) B #[.int .i64 1, .int .i64 at_, .string ⟨#[]⟩, .int .i64 0, .string ⟨#[]⟩, .slice none 0 0, .string qn, .slice A ql.length c, .int .i64 0, .slice none 0 0, .string ⟨#[]⟩, .slice none 0 0, .string ⟨#[]⟩, .string ⟨#[]⟩, .bool false, .int .i64 0, .string ⟨#[]⟩, .slice none 0 0, .slice none 0 0, .slice none 0 0, .slice none 0 0]) := Lib.hid (by have h := (((HB.out.set 0 (.int .i64 1)).set 6 (.string qn)).set 7 (.slice A ql.length c)); simpa using h)
              have HQ_ := Lib.hid (HQ.out.step (fun k hk _ => HPUT.out.block k (.inr (by omega))))
              clear HPUT HG HR HB HQ
              have HG := HG_
              have HR := HR_
              have HB := HB_
              have HQ := HQ_
              clear HG_ HR_ HB_ HQ_
              go_wp2_with fail
              clear lHB cHB fHB
              generalize (((w22.setCell ⟨B, 0, none⟩ (.int .i64 1)).setCell ⟨B, 6, none⟩ (.string qn)).setCell ⟨B, 7, none⟩ (.slice A ql.length c)) = w23 at *
              refine (must_rd HR.out ⟨#[61]⟩).mono ?_
              rintro e w24 ⟨hg, ⟨⟨⟩, us4, v, hp, rfl, rfl, hr, hle⟩ | ⟨er, at9, hp, rfl⟩⟩
              · skip
                have HP16 := Lib.hid hp
                have HLE16 := Lib.hid hle
                clear hp hle
                have HG_ := Lib.hid (World.grownBy.trans HG.out hg)
                have HR_ := Lib.hid hr
                have HB_ := Lib.hid (HB.out.kept hg (by omega))
                have HQ_ := Lib.hid (HQ.out.grown hg (fun k hk e => by injection e; omega))
                clear hg hr HG HR HB HQ
                have HG := HG_
                have HR := HR_
                have HB := HB_
                have HQ := HQ_
                clear HG_ HR_ HB_ HQ_
                go_wp2_with fail
                refine (set_rd HR.out).mono ?_
                rintro e w25 ⟨hg, ⟨r, us5, v, hp, rfl, hv, hr, hle⟩ | ⟨er, at9, hp, rfl⟩⟩
                · skip
                  obtain ⟨rk, ops, pn, pl, rn, rv, A9, c9, A8, c8, rfl, rfl, hl, hl2⟩ := hv.rv
                  have hm3 := blk_lt HB.out
                  have HV1 := Lib.hid (hl.mono (ok' := fun j => B < j) (fun k hk => by omega))
                  clear hm3
                  have hm3 := blk_lt HB.out
                  have HV2 := Lib.hid (hl2.mono (ok' := fun j => B < j) (fun k hk => by omega))
                  clear hm3
                  clear hl hl2 hv
                  have HP17 := Lib.hid hp
                  have HLE17 := Lib.hid hle
                  clear hp hle
                  have HG_ := Lib.hid (World.grownBy.trans HG.out hg)
                  have HR_ := Lib.hid hr
                  have HB_ := Lib.hid (HB.out.kept hg (by omega))
                  have HQ_ := Lib.hid (HQ.out.grown hg (fun k hk e => by injection e; omega))
                  clear hg hr HG HR HB HQ
                  have HG := HG_
                  have HR := HR_
                  have HB := HB_
                  have HQ := HQ_
                  clear HG_ HR_ HB_ HQ_
                  obtain ⟨lHB, cHB, fHB⟩ := HB.out.see
                  have HPUT := Lib.hid (Put.set (Put.set (Put.set (Put.set (Put.set (Put.set (Put.refl W.heap.size (B + 1) w25) (p := ⟨B, 8, none⟩) (by simp only; omega) (by simp only; omega) (.int .i64 rk)) (p := ⟨B, 9, none⟩) (by simp only; omega) (by simp only; omega) (.slice A9 ops.length c9)) (p := ⟨B, 10, none⟩) (by simp only; omega) (by simp only; omega) (.string pn)) (p := ⟨B, 11, none⟩) (by simp only; omega) (by simp only; omega) (.slice A8 pl.length c8)) (p := ⟨B, 12, none⟩) (by simp only; omega) (by simp only; omega) (.string rn)) (p := ⟨B, 13, none⟩) (by simp only; omega) (by simp only; omega) (.string rv))
                  have HG_ := Lib.hid (HPUT.out.grown HG.out (Nat.le_refl _))
                  have HR_ := Lib.hid (HR.out.put HPUT.out hR)
                  have HB_ : Hid (Bx 65 ((((((w25.setCell ⟨B, 8, none⟩ (.int .i64 rk)).setCell ⟨B, 9, none⟩ (.slice A9 ops.length c9)).setCell ⟨B, 10, none⟩ (.string pn)).setCell ⟨B, 11, none⟩ (.slice A8 pl.length c8)).setCell ⟨B, 12, none⟩ (.string rn)).setCell ⟨B, 13, none⟩ (.string rv)) B #[.int .i64 1, .int .i64 at_, .string ⟨#[]⟩, .int .i64 0, .string ⟨#[]⟩, .slice none 0 0, .string qn, .slice A ql.length c, .int .i64 rk, .slice A9 ops.length c9, .string pn, .slice A8 pl.length c8, .string rn, .string rv, .bool false, .int .i64 0, .string ⟨#[]⟩, .slice none 0 0, .slice none 0 0, .slice none 0 0, .slice none 0 0]) := Lib.hid (by have h := ((((((HB.out.set 8 (.int .i64 rk)).set 9 (.slice A9 ops.length c9)).set 10 (.string pn)).set 11 (.slice A8 pl.length c8)).set 12 (.string rn)).set 13 (.string rv)); simpa using h)
                  have HQ_ := Lib.hid (HQ.out.step (fun k hk _ => HPUT.out.block k (.inr (by omega))))
                  have HV1_ := Lib.hid (HV1.out.step (fun k hk _ => HPUT.out.block k (.inr (by omega))))
                  have HV2_ := Lib.hid (HV2.out.step (fun k hk _ => HPUT.out.block k (.inr (by omega))))
                  clear HPUT HG HR HB HQ HV1 HV2
                  have HG := HG_
                  have HR := HR_
                  have HB := HB_
                  have HQ := HQ_
                  have HV1 := HV1_
                  have HV2 := HV2_
                  clear HG_ HR_ HB_ HQ_ HV1_ HV2_
                  go_wp2_with fail
                  clear lHB cHB fHB
                  generalize ((((((w25.setCell ⟨B, 8, none⟩ (.int .i64 rk)).setCell ⟨B, 9, none⟩ (.slice A9 ops.length c9)).setCell ⟨B, 10, none⟩ (.string pn)).setCell ⟨B, 11, none⟩ (.slice A8 pl.length c8)).setCell ⟨B, 12, none⟩ (.string rn)).setCell ⟨B, 13, none⟩ (.string rv)) = w26 at *
                  have HPF : Hid (simpleP at_ ts = .ok (.mk 1 at_ noB .zero ⟨qn, ql⟩ ⟨rk, ops, ⟨pn, pl⟩, rn, rv⟩ .zero [] [] [], us5)) := Lib.hid (by rw [simpleP, optE_f HW1.out, optE_f HW7.out, optE_f HW9.out, optE_f HW11.out, optE_f HW13.out, Ps.bd_ok HP15.out, Ps.bd_ok HP16.out, Ps.bd_ok HP17.out]; exact rfl)
                  go_end0
                  exact ⟨HG.out, .inl ⟨.mk 1 at_ noB .zero ⟨qn, ql⟩ ⟨rk, ops, ⟨pn, pl⟩, rn, rv⟩ .zero [] [] [], us5, [.int .i64 1, .int .i64 at_, .string ⟨#[]⟩, .int .i64 0, .string ⟨#[]⟩, .slice none 0 0, .string qn, .slice A ql.length c, .int .i64 rk, .slice A9 ops.length c9, .string pn, .slice A8 pl.length c8, .string rn, .string rv, .bool false, .int .i64 0, .string ⟨#[]⟩, .slice none 0 0, .slice none 0 0, .slice none 0 0, .slice none 0 0], HPF.out, rfl, HB.out, stm_rds (by simp only [Ty.ds]; exact (Rd.nil _ _ _ _)) HQ.out HV1.out HV2.out (Rd.nil _ _ _ _) (by simp only [Stm.ds]; exact (Rd.nil _ _ _ _)) (by simp only [Stm.ds]; exact (Rd.nil _ _ _ _)) (by simp only [Arm.ds]; exact (Rd.nil _ _ _ _)), HR.out, by have := HLE15.out; have := HLE16.out; have := HLE17.out; first | omega | (simp at *; done) | (simp at *; omega)⟩⟩
                · go_wp2_with fail
                  exact ⟨rfl, World.grownBy.trans HG.out hg, .inr ⟨er, at9, (by rw [simpleP, optE_f HW1.out, optE_f HW7.out, optE_f HW9.out, optE_f HW11.out, optE_f HW13.out, Ps.bd_ok HP15.out, Ps.bd_ok HP16.out]; exact Ps.bd_err hp), rfl⟩⟩
              · go_wp2_with fail
                exact ⟨rfl, World.grownBy.trans HG.out hg, .inr ⟨er, at9, (by rw [simpleP, optE_f HW1.out, optE_f HW7.out, optE_f HW9.out, optE_f HW11.out, optE_f HW13.out, Ps.bd_ok HP15.out]; exact Ps.bd_err hp), rfl⟩⟩
            · go_wp2_with fail
              exact ⟨rfl, World.grownBy.trans HG.out hg, .inr ⟨er, at9, (by rw [simpleP, optE_f HW1.out, optE_f HW7.out, optE_f HW9.out, optE_f HW11.out, optE_f HW13.out]; exact Ps.bd_err hp), rfl⟩⟩
end Go.Proofs.YtjoiflokekebkaaDoor
