/- Walks: an arm, a statement. -/
import Derived.Test.YtjoiflokekebkaaDoorR11
set_option linter.all false
namespace Go.Proofs.YtjoiflokekebkaaDoor
open Go.RowKit Go.Proofs.YtjoiflokekebkaaDoorW.PrintLast

theorem Ty.ds_length (a : List Ty) : (Ty.ds a).length = a.length := by
  induction a with
  | nil => simp [Ty.ds]
  | cons x a ih => simp [Ty.ds, ih]
theorem stm_open {w : World} {ok : Nat → Prop} {cs : List Value} {x : Stm} (h : Rds w ok cs (Stm.d x)) :
    ∃ k at_ n tk tn tl pn pl rk ops rpn rpl rn rv b on om ol th el arms A1 c1 A2 c2 A3 c3 A4 c4 A5 c5 A6 c6 A7 c7 A8 c8, x = .mk k at_ n (.mk tk tn tl) ⟨pn, pl⟩ ⟨rk, ops, ⟨rpn, rpl⟩, rn, rv⟩ ⟨b, on, ⟨om, ol⟩⟩ th el arms ∧ cs = [.int .i64 k, .int .i64 at_, .string n, .int .i64 tk, .string tn, .slice A1 tl.length c1, .string pn, .slice A2 pl.length c2, .int .i64 rk, .slice A3 ops.length c3, .string rpn, .slice A4 rpl.length c4, .string rn, .string rv, .bool b, .int .i64 on, .string om, .slice A5 ol.length c5, .slice A6 th.length c6, .slice A7 el.length c7, .slice A8 arms.length c8] ∧
      Rd w ok (.slice A1 tl.length c1) (.row 53 3 (Ty.ds tl)) ∧ Rd w ok (.slice A2 pl.length c2) (.row 140 1 (pl.map stepD)) ∧ Rd w ok (.slice A3 ops.length c3) (.row 62 4 (ops.map Opr.d)) ∧ Rd w ok (.slice A4 rpl.length c4) (.row 140 1 (rpl.map stepD)) ∧ Rd w ok (.slice A5 ol.length c5) (.row 140 1 (ol.map stepD)) ∧ Rd w ok (.slice A6 th.length c6) (.row 65 21 (Stm.ds th)) ∧ Rd w ok (.slice A7 el.length c7) (.row 65 21 (Stm.ds el)) ∧ Rd w ok (.slice A8 arms.length c8) (.row 77 3 (Arm.ds arms)) := by
  obtain ⟨k, at_, n, ⟨tk, tn, tl⟩, ⟨pn, pl⟩, ⟨rk, ops, ⟨rpn, rpl⟩, rn, rv⟩, ⟨b, on, ⟨om, ol⟩⟩, th, el, arms⟩ := x
  simp only [Stm.d, Ty.d] at h
  match cs, h with
  | [a0, a1, a2, a3, a4, a5, a6, a7, a8, a9, a10, a11, a12, a13, a14, a15, a16, a17, a18, a19, a20], h =>
    obtain ⟨h0, h1, h2, h3, h4, h5, h6, h7, h8, h9, h10, h11, h12, h13, h14, h15, h16, h17, h18, h19, h20, _⟩ := h
    obtain rfl := h0.v_eq
    obtain rfl := h1.v_eq
    obtain rfl := h2.v_eq
    obtain rfl := h3.v_eq
    obtain rfl := h4.v_eq
    obtain rfl := h6.v_eq
    obtain rfl := h8.v_eq
    obtain rfl := h10.v_eq
    obtain rfl := h12.v_eq
    obtain rfl := h13.v_eq
    obtain rfl := h14.v_eq
    obtain rfl := h15.v_eq
    obtain rfl := h16.v_eq
    obtain ⟨A1, c1, rfl⟩ := h5.slice
    obtain ⟨A2, c2, rfl⟩ := h7.slice
    obtain ⟨A3, c3, rfl⟩ := h9.slice
    obtain ⟨A4, c4, rfl⟩ := h11.slice
    obtain ⟨A5, c5, rfl⟩ := h17.slice
    obtain ⟨A6, c6, rfl⟩ := h18.slice
    obtain ⟨A7, c7, rfl⟩ := h19.slice
    obtain ⟨A8, c8, rfl⟩ := h20.slice
    simp only [Ty.ds_length, Stm.ds_length, Arm.ds_length, List.length_map] at h5 h7 h9 h11 h17 h18 h19 h20 ⊢
    exact ⟨k, at_, n, tk, tn, tl, pn, pl, rk, ops, rpn, rpl, rn, rv, b, on, om, ol, th, el, arms, A1, c1, A2, c2, A3, c3, A4, c4, A5, c5, A6, c6, A7, c7, A8, c8, rfl, rfl, h5, h7, h9, h11, h17, h18, h19, h20⟩

theorem Leads.arm_mk {W W' : World} {v b : ByteArray} {l : List Stm} {u : Value} (h : Rd W' (fun j => W.heap.size ≤ j) u (.row 65 21 (Stm.ds l))) : Leads W Arm.d W' (.agg #[.string v, .string b, u]) (.mk v b l) :=
  ⟨[.string v, .string b, u], rfl, by simp only [Arm.d]; exact ⟨.v _, .v _, h, trivial⟩⟩
theorem Leads.arm {W W' : World} {v : Value} {x : Arm} (h : Leads W Arm.d W' v x) : ∃ vn b l A c, x = .mk vn b l ∧ v = .agg #[.string vn, .string b, .slice A l.length c] ∧ Rd W' (fun j => W.heap.size ≤ j) (.slice A l.length c) (.row 65 21 (Stm.ds l)) := by
  obtain ⟨cs, rfl, hc⟩ := h
  obtain ⟨vn, b, l⟩ := x
  simp only [Arm.d] at hc
  match cs, hc with
  | [a0, a1, u], hc =>
    obtain ⟨h1, h2, h3, _⟩ := hc
    obtain rfl := h1.v_eq
    obtain rfl := h2.v_eq
    obtain ⟨A, c, rfl⟩ := h3.slice
    rw [Stm.ds_length] at h3 ⊢
    exact ⟨vn, b, l, A, c, rfl, rfl, h3⟩
/-- The contract of a block's reader. -/
def BlkOk (k : Nat) : Prop := ∀ (d : Int), 0 ≤ d → d + k = 61 → ∀ (W : World) (R : Nat) (ts : List Tk), Rdr W R ts →
  Calls Tryd.prog 37 #[.pointer (some ⟨R, 0, none⟩), .int .i64 d] W fun e W' => Does (blockP k) (fun W' v l => Rd W' (fun j => W.heap.size ≤ j) v (.row 65 21 (Stm.ds l))) W R ts e W'
theorem info_Arm : (Tryd.prog.info? 77).map (fun i => (i.zero, i.size, i.bytes)) = some (some (.agg #[.string ⟨#[]⟩, .string ⟨#[]⟩, .slice none 0 0]), 3, 56) := by kernel_rfl
/-- What has been since a box was laid. -/
def Since (W : World) (m R x : Nat) (cs : Array Value) (w : World) : Prop := ∃ w1 : World, w1.heap.size = m ∧ W.grownBy w1 (some R) ∧ w1.grownBy w (some R) ∧ Bx 65 w1 x cs
theorem Since.kept {W : World} {m R x : Nat} {cs : Array Value} {w w' : World} (h : Since W m R x cs w) (hg : w.grownBy w' (some R)) : Since W m R x cs w' := by
  obtain ⟨w1, h1, h0, h2, h3⟩ := h
  exact ⟨w1, h1, h0, World.grownBy.trans h2 hg, h3⟩
section
variable {blk : Ps (List Stm)} {n : Nat} {acc : List Arm} {f : List Arm → Stm} {ts us : List Tk} {x : Arm}
theorem arms_t (hw : isW (⟨#[125]⟩ : ByteArray) ts = false) (hx : armP blk ts = .ok (x, us)) : ((armsP blk (n + 1)).bd fun l => Ps.ret (f (acc ++ l))) ts = ((armsP blk n).bd fun l => Ps.ret (f ((acc ++ [x]) ++ l))) us := by
  have h : armsP blk (n + 1) ts = ((armP blk).bd fun a => (armsP blk n).bd fun l => .ret (a :: l)) ts := optE_f hw
  rw [Ps.bd_ok hx] at h
  unfold Ps.bd at h ⊢
  rw [h]
  cases armsP blk n us with
  | error e => rfl
  | ok q => simp [Ps.ret]
theorem arms_e {e : Int × Int} (hw : isW (⟨#[125]⟩ : ByteArray) ts = false) (hx : armP blk ts = .error e) : ((armsP blk (n + 1)).bd fun l => Ps.ret (f (acc ++ l))) ts = .error e := by
  have h : armsP blk (n + 1) ts = ((armP blk).bd fun a => (armsP blk n).bd fun l => .ret (a :: l)) ts := optE_f hw
  rw [Ps.bd_err hx] at h
  exact Ps.bd_err h
theorem arms_f (hw : isW (⟨#[125]⟩ : ByteArray) ts = true) : ((armsP blk (n + 1)).bd fun l => Ps.ret (f (acc ++ l))) ts = .ok (f acc, ts.tail) := by
  have h : armsP blk (n + 1) ts = .ok ([], ts.tail) := optE_t hw
  rw [Ps.bd_ok h]
  simp [Ps.ret]
end

set_option maxRecDepth 100000 in
set_option maxHeartbeats 2000000 in
theorem arm_rd {W : World} {R : Nat} {ts : List Tk} (h : Rdr W R ts) {k : Nat} (ih : BlkOk k) (d : Int) (h0 : 0 ≤ d) (hd : d + 1 + k = 61) : Calls Tryd.prog 60 #[.pointer (some ⟨R, 0, none⟩), .int .i64 d] W fun e W' => Does (armP (blockP k)) (Leads W Arm.d) W R ts e W' := by
  have hR := h.lt
  have hlen := h.ok.len
  have hd61 : d ≤ 61 := by omega
  have IH := Lib.hid (fun w us (h : Rdr w R us) => ih (d + 1) (by omega) hd w R us h)
  clear ih hd
  have HR := Lib.hid (h.below ((Below.refl (R + 1) W).alloc (by omega) (.cells #[.string ⟨#[]⟩, .string ⟨#[]⟩, .slice none 0 0] 77)) (by omega))
  have HG := Lib.hid (grown_alloc (World.grownBy.refl W (some R)) (.cells #[.string ⟨#[]⟩, .string ⟨#[]⟩, .slice none 0 0] 77))
  have HX := Lib.hid (.newAt rfl : Bx 77 (W.alloc (.cells #[.string ⟨#[]⟩, .string ⟨#[]⟩, .slice none 0 0] 77)) W.heap.size #[.string ⟨#[]⟩, .string ⟨#[]⟩, .slice none 0 0])
  clear h
  go_enter Tryd.func60, Tryd.ntmps60
  go_wp2_with fail
  generalize (W.alloc (.cells #[.string ⟨#[]⟩, .string ⟨#[]⟩, .slice none 0 0] 77)) = w1 at *
  refine (name_rd HR.out true).mono ?_
  rintro e w2 ⟨hg, ⟨vn, us, v, hp, rfl, rfl, hr, hle⟩ | ⟨er, at_, hp, rfl⟩⟩
  · skip
    have HP1 := Lib.hid hp
    have HLE1 := Lib.hid hle
    clear hp hle
    have HG_ := Lib.hid (World.grownBy.trans HG.out hg)
    have HR_ := Lib.hid hr
    have HX_ := Lib.hid (HX.out.kept hg (by omega))
    clear hg hr HG HR HX
    have HG := HG_
    have HR := HR_
    have HX := HX_
    clear HG_ HR_ HX_
    have hlm : W.heap.size < w2.heap.size := blk_lt HX.out
    have HG_ := Lib.hid (grown_alloc HG.out (.cells #[.string vn, .string ⟨#[]⟩, .slice none 0 0] 77))
    have HR_ := Lib.hid (HR.out.below (bel_one HR.out.lt (.cells #[.string vn, .string ⟨#[]⟩, .slice none 0 0] 77)) (by omega))
    have HX_ := Lib.hid (HX.out.alloc (.cells #[.string vn, .string ⟨#[]⟩, .slice none 0 0] 77))
    have HY_ : Hid (Bx 77 (w2.alloc (.cells #[.string vn, .string ⟨#[]⟩, .slice none 0 0] 77)) w2.heap.size #[.string vn, .string ⟨#[]⟩, .slice none 0 0]) := Lib.hid (.newAt rfl)
    clear HG HR HX
    have HG := HG_
    have HR := HR_
    have HX := HX_
    clear HG_ HR_ HX_
    have HY := HY_
    clear HY_
    go_wp2_with fail
    generalize w2.alloc (.cells #[.string vn, .string ⟨#[]⟩, .slice none 0 0] 77) = w3 at *
    generalize w2.heap.size = m at *
    refine (opt_rd HR.out ⟨#[40]⟩).mono ?_
    rintro e w4 ⟨hg, ⟨hw, rfl, hr⟩ | ⟨hw, rfl, hr⟩⟩
    · skip
      have HW2 := Lib.hid hw
      have HLT2 := Lib.hid (isW_pos hw)
      clear hw
      have HG_ := Lib.hid (World.grownBy.trans HG.out hg)
      have HR_ := Lib.hid hr
      have HX_ := Lib.hid (HX.out.kept hg (by omega))
      have HY_ := Lib.hid (HY.out.kept hg (by omega))
      clear hg hr HG HR HX HY
      have HG := HG_
      have HR := HR_
      have HX := HX_
      have HY := HY_
      clear HG_ HR_ HX_ HY_
      go_wp2_with fail
      refine (name_rd HR.out false).mono ?_
      rintro e w5 ⟨hg, ⟨bn, us2, v, hp, rfl, rfl, hr, hle⟩ | ⟨er, at_, hp, rfl⟩⟩
      · skip
        have HP3 := Lib.hid hp
        have HLE3 := Lib.hid hle
        clear hp hle
        have HG_ := Lib.hid (World.grownBy.trans HG.out hg)
        have HR_ := Lib.hid hr
        have HX_ := Lib.hid (HX.out.kept hg (by omega))
        have HY_ := Lib.hid (HY.out.kept hg (by omega))
        clear hg hr HG HR HX HY
        have HG := HG_
        have HR := HR_
        have HX := HX_
        have HY := HY_
        clear HG_ HR_ HX_ HY_
        obtain ⟨lHX, cHX, fHX⟩ := HX.out.see
        obtain ⟨lHY, cHY, fHY⟩ := HY.out.see
        have hne01 : (W.heap.size = m) = False := eq_false (by omega)
        have hne10 : (m = W.heap.size) = False := eq_false (by omega)
        have HPUT := Lib.hid (Put.set (Put.refl W.heap.size (m + 1) w5) (p := ⟨m, 1, none⟩) (by simp only; omega) (by simp only; omega) (.string bn))
        have HG_ := Lib.hid (HPUT.out.grown HG.out (Nat.le_refl _))
        have HR_ := Lib.hid (HR.out.put HPUT.out hR)
        have HX_ := Lib.hid (HX.out.far (p := ⟨m, 1, none⟩) (by simp only; omega) (.string bn))
        have HY_ : Hid (Bx 77 (w5.setCell ⟨m, 1, none⟩ (.string bn)) m #[.string vn, .string bn, .slice none 0 0]) := Lib.hid (by have h := (HY.out.set 1 (.string bn)); simpa using h)
        clear HPUT HG HR HX HY
        have HG := HG_
        have HR := HR_
        have HX := HX_
        have HY := HY_
        clear HG_ HR_ HX_ HY_
        go_wp2_with fail
        clear lHX cHX fHX lHY cHY fHY hne01 hne10
        generalize (w5.setCell ⟨m, 1, none⟩ (.string bn)) = w6 at *
        refine (must_rd HR.out ⟨#[41]⟩).mono ?_
        rintro e w7 ⟨hg, ⟨⟨⟩, us3, v, hp, rfl, rfl, hr, hle⟩ | ⟨er, at_, hp, rfl⟩⟩
        · skip
          have HP4 := Lib.hid hp
          have HLE4 := Lib.hid hle
          clear hp hle
          have HG_ := Lib.hid (World.grownBy.trans HG.out hg)
          have HR_ := Lib.hid hr
          have HX_ := Lib.hid (HX.out.kept hg (by omega))
          have HY_ := Lib.hid (HY.out.kept hg (by omega))
          clear hg hr HG HR HX HY
          have HG := HG_
          have HR := HR_
          have HX := HX_
          have HY := HY_
          clear HG_ HR_ HX_ HY_
          go_wp2_with fail
          refine (must_rd HR.out ⟨#[61, 62]⟩).mono ?_
          rintro e w8 ⟨hg, ⟨⟨⟩, us4, v, hp, rfl, rfl, hr, hle⟩ | ⟨er, at_, hp, rfl⟩⟩
          · skip
            have HP5 := Lib.hid hp
            have HLE5 := Lib.hid hle
            clear hp hle
            have HG_ := Lib.hid (World.grownBy.trans HG.out hg)
            have HR_ := Lib.hid hr
            have HX_ := Lib.hid (HX.out.kept hg (by omega))
            have HY_ := Lib.hid (HY.out.kept hg (by omega))
            clear hg hr HG HR HX HY
            have HG := HG_
            have HR := HR_
            have HX := HX_
            have HY := HY_
            clear HG_ HR_ HX_ HY_
            go_wp2_with fail
            refine (IH.out _ _ HR.out).mono ?_
            rintro e w9 ⟨hg, ⟨l, us5, v, hp, rfl, hv, hr, hle⟩ | ⟨er, at_, hp, rfl⟩⟩
            · skip
              obtain ⟨A, c, rfl⟩ := hv.slice
              rw [Stm.ds_length] at hv ⊢
              have hm3 := blk_lt HY.out
              have HL := Lib.hid (hv.low (m := m + 1) (by omega))
              clear hv hm3
              have HP6 := Lib.hid hp
              have HLE6 := Lib.hid hle
              clear hp hle
              have HG_ := Lib.hid (World.grownBy.trans HG.out hg)
              have HR_ := Lib.hid hr
              have HX_ := Lib.hid (HX.out.kept hg (by omega))
              have HY_ := Lib.hid (HY.out.kept hg (by omega))
              clear hg hr HG HR HX HY
              have HG := HG_
              have HR := HR_
              have HX := HX_
              have HY := HY_
              clear HG_ HR_ HX_ HY_
              have HPF : Hid ((armP (blockP k)) ts = .ok (.mk vn bn l, us5)) := Lib.hid (by rw [armP, Ps.bd_ok HP1.out, optE_t HW2.out, Ps.bd_ok HP3.out, Ps.bd_ok HP4.out, Ps.bd_ok HP5.out, Ps.bd_ok HP6.out]; exact rfl)
              have HPUT : ∀ w', Put W.heap.size (m + 1) w9 w' → Does (armP (blockP k)) (Leads W Arm.d) W R ts (.returned (.agg #[.string vn, .string bn, .slice A l.length c])) w' := fun w' hput => ⟨hput.grown HG.out (Nat.le_refl _), .inl ⟨.mk vn bn l, us5, _, HPF.out, rfl, Leads.arm_mk ((HL.out.put hput (Nat.le_refl _)).low (by omega)), HR.out.put hput hR, by have := HLE1.out; have := HLT2.out; have := HLE3.out; have := HLE4.out; have := HLE5.out; have := HLE6.out; first | omega | (simp at *; done) | (simp at *; omega)⟩⟩
              obtain ⟨lHX, cHX, fHX⟩ := HX.out.see
              obtain ⟨lHY, cHY, fHY⟩ := HY.out.see
              have hne01 : (W.heap.size = m) = False := eq_false (by omega)
              have hne10 : (m = W.heap.size) = False := eq_false (by omega)
              go_wp2_with fail
              refine bodyPost_ret (v := .agg #[.string vn, .string bn, .slice A l.length c]) (by (simp only [results, Tryd.results60]); go_simp) rfl (HPUT _ ?_)
              repeat (first | with_reducible exact Put.refl _ _ _ | (with_reducible refine Put.set ?_ ?_ ?_ _; rotate_left; (simp only; omega); (simp only; omega)))
            · go_wp2_with fail
              exact ⟨rfl, World.grownBy.trans HG.out hg, .inr ⟨er, at_, (by rw [armP, Ps.bd_ok HP1.out, optE_t HW2.out, Ps.bd_ok HP3.out, Ps.bd_ok HP4.out, Ps.bd_ok HP5.out]; exact Ps.bd_err hp), rfl⟩⟩
          · go_wp2_with fail
            exact ⟨rfl, World.grownBy.trans HG.out hg, .inr ⟨er, at_, (by rw [armP, Ps.bd_ok HP1.out, optE_t HW2.out, Ps.bd_ok HP3.out, Ps.bd_ok HP4.out]; exact Ps.bd_err hp), rfl⟩⟩
        · go_wp2_with fail
          exact ⟨rfl, World.grownBy.trans HG.out hg, .inr ⟨er, at_, (by rw [armP, Ps.bd_ok HP1.out, optE_t HW2.out, Ps.bd_ok HP3.out]; exact Ps.bd_err hp), rfl⟩⟩
      · go_wp2_with fail
        exact ⟨rfl, World.grownBy.trans HG.out hg, .inr ⟨er, at_, (by rw [armP, Ps.bd_ok HP1.out, optE_t HW2.out]; exact Ps.bd_err hp), rfl⟩⟩
    · skip
      have HW2 := Lib.hid hw
      clear hw
      have HG_ := Lib.hid (World.grownBy.trans HG.out hg)
      have HR_ := Lib.hid hr
      have HX_ := Lib.hid (HX.out.kept hg (by omega))
      have HY_ := Lib.hid (HY.out.kept hg (by omega))
      clear hg hr HG HR HX HY
      have HG := HG_
      have HR := HR_
      have HX := HX_
      have HY := HY_
      clear HG_ HR_ HX_ HY_
      go_wp2_with fail
      refine (must_rd HR.out ⟨#[61, 62]⟩).mono ?_
      rintro e w10 ⟨hg, ⟨⟨⟩, us2, v, hp, rfl, rfl, hr, hle⟩ | ⟨er, at_, hp, rfl⟩⟩
      · skip
        have HP7 := Lib.hid hp
        have HLE7 := Lib.hid hle
        clear hp hle
        have HG_ := Lib.hid (World.grownBy.trans HG.out hg)
        have HR_ := Lib.hid hr
        have HX_ := Lib.hid (HX.out.kept hg (by omega))
        have HY_ := Lib.hid (HY.out.kept hg (by omega))
        clear hg hr HG HR HX HY
        have HG := HG_
        have HR := HR_
        have HX := HX_
        have HY := HY_
        clear HG_ HR_ HX_ HY_
        go_wp2_with fail
        refine (IH.out _ _ HR.out).mono ?_
        rintro e w11 ⟨hg, ⟨l, us3, v, hp, rfl, hv, hr, hle⟩ | ⟨er, at_, hp, rfl⟩⟩
        · skip
          obtain ⟨A, c, rfl⟩ := hv.slice
          rw [Stm.ds_length] at hv ⊢
          have hm3 := blk_lt HY.out
          have HL := Lib.hid (hv.low (m := m + 1) (by omega))
          clear hv hm3
          have HP8 := Lib.hid hp
          have HLE8 := Lib.hid hle
          clear hp hle
          have HG_ := Lib.hid (World.grownBy.trans HG.out hg)
          have HR_ := Lib.hid hr
          have HX_ := Lib.hid (HX.out.kept hg (by omega))
          have HY_ := Lib.hid (HY.out.kept hg (by omega))
          clear hg hr HG HR HX HY
          have HG := HG_
          have HR := HR_
          have HX := HX_
          have HY := HY_
          clear HG_ HR_ HX_ HY_
          have HPF : Hid ((armP (blockP k)) ts = .ok (.mk vn noB l, us3)) := Lib.hid (by rw [armP, Ps.bd_ok HP1.out, optE_f HW2.out, Ps.bd_ok HP7.out, Ps.bd_ok HP8.out]; exact rfl)
          have HPUT : ∀ w', Put W.heap.size (m + 1) w11 w' → Does (armP (blockP k)) (Leads W Arm.d) W R ts (.returned (.agg #[.string vn, .string ⟨#[]⟩, .slice A l.length c])) w' := fun w' hput => ⟨hput.grown HG.out (Nat.le_refl _), .inl ⟨.mk vn noB l, us3, _, HPF.out, rfl, Leads.arm_mk ((HL.out.put hput (Nat.le_refl _)).low (by omega)), HR.out.put hput hR, by have := HLE1.out; have := HLE7.out; have := HLE8.out; first | omega | (simp at *; done) | (simp at *; omega)⟩⟩
          obtain ⟨lHX, cHX, fHX⟩ := HX.out.see
          obtain ⟨lHY, cHY, fHY⟩ := HY.out.see
          have hne01 : (W.heap.size = m) = False := eq_false (by omega)
          have hne10 : (m = W.heap.size) = False := eq_false (by omega)
          go_wp2_with fail
          refine bodyPost_ret (v := .agg #[.string vn, .string ⟨#[]⟩, .slice A l.length c]) (by (simp only [results, Tryd.results60]); go_simp) rfl (HPUT _ ?_)
          repeat (first | with_reducible exact Put.refl _ _ _ | (with_reducible refine Put.set ?_ ?_ ?_ _; rotate_left; (simp only; omega); (simp only; omega)))
        · go_wp2_with fail
          exact ⟨rfl, World.grownBy.trans HG.out hg, .inr ⟨er, at_, (by rw [armP, Ps.bd_ok HP1.out, optE_f HW2.out, Ps.bd_ok HP7.out]; exact Ps.bd_err hp), rfl⟩⟩
      · go_wp2_with fail
        exact ⟨rfl, World.grownBy.trans HG.out hg, .inr ⟨er, at_, (by rw [armP, Ps.bd_ok HP1.out, optE_f HW2.out]; exact Ps.bd_err hp), rfl⟩⟩
  · go_wp2_with fail
    exact ⟨rfl, World.grownBy.trans HG.out hg, .inr ⟨er, at_, (by rw [armP]; exact Ps.bd_err hp), rfl⟩⟩
end Go.Proofs.YtjoiflokekebkaaDoor
