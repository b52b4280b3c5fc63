/- Walks: an operand. -/
import Derived.Test.YtjoiflokekebkaaDoorR7
set_option linter.all false
namespace Go.Proofs.YtjoiflokekebkaaDoor
open Go.RowKit

theorem numE_t {α : Type} {p : Int → Ps α} {q : Ps α} {ts : List Tk} (h : (hd ts).k = 2) : numE p q ts = p (hd ts).n ts.tail := by rw [numE, if_pos h]
theorem numE_f {α : Type} {p : Int → Ps α} {q : Ps α} {ts : List Tk} (h : ¬ (hd ts).k = 2) : numE p q ts = q ts := by rw [numE, if_neg h]
theorem Leads.opr_mk {W W' : World} {b : Bool} {n : Int} {m : ByteArray} {l : List ByteArray} {u : Value} (h : Rd W' (fun j => W.heap.size ≤ j) u (.row 140 1 (l.map stepD))) : Leads W Opr.d W' (.agg #[.bool b, .int .i64 n, .string m, u]) ⟨b, n, ⟨m, l⟩⟩ :=
  ⟨[.bool b, .int .i64 n, .string m, u], rfl, ⟨.v _, .v _, .v _, h, trivial⟩⟩
theorem Leads.opr {W W' : World} {v : Value} {x : Opr} (h : Leads W Opr.d W' v x) : ∃ b n m l A c, x = ⟨b, n, ⟨m, l⟩⟩ ∧ v = .agg #[.bool b, .int .i64 n, .string m, .slice A l.length c] ∧ Rd W' (fun j => W.heap.size ≤ j) (.slice A l.length c) (.row 140 1 (l.map stepD)) := by
  obtain ⟨cs, rfl, hc⟩ := h
  obtain ⟨b, n, m, l⟩ := x
  match cs, hc with
  | [a0, a1, a2, u], hc =>
    obtain ⟨h1, h2, h3, h4, _⟩ := hc
    obtain rfl := h1.v_eq
    obtain rfl := h2.v_eq
    obtain rfl := h3.v_eq
    obtain ⟨A, c, rfl⟩ := h4.slice
    rw [List.length_map] at h4 ⊢
    exact ⟨b, n, m, l, A, c, rfl, rfl, h4⟩
theorem four_Oper {W : World} {ok : Nat → Prop} {cs : List Value} {x : Opr} (h : Rds W ok cs (Opr.d x)) : ∃ a b c d, cs = [a, b, c, d] ∧ ∀ y ∈ cs, y.oneCell' = true := by
  obtain ⟨b, n, m, l⟩ := x
  match cs, h with
  | [a0, a1, a2, u], h =>
    obtain ⟨h1, h2, h3, h4, _⟩ := h
    obtain rfl := h1.v_eq
    obtain rfl := h2.v_eq
    obtain rfl := h3.v_eq
    obtain ⟨A, c, rfl⟩ := h4.slice
    exact ⟨_, _, _, _, rfl, by simp [Value.oneCell']⟩
theorem Toks.hd_num {ts : List Tk} (h : Toks ts) : -9223372036854775807 ≤ (hd ts).n ∧ (hd ts).n ≤ 9223372036854775807 := by
  cases ts with
  | nil => exact absurd rfl h.ne
  | cons t r => exact h.num t (by simp)

set_option maxRecDepth 100000 in
set_option maxHeartbeats 2000000 in
theorem oper_rd {W : World} {R : Nat} {ts : List Tk} (h : Rdr W R ts) : Calls Tryd.prog 58 #[.pointer (some ⟨R, 0, none⟩)] W fun e W' => Does (operP) (Leads W Opr.d) W R ts e W' := by
  have hR := h.lt
  have hlen := h.ok.len
  have HR := Lib.hid (h.below ((Below.refl (R + 1) W).alloc (by omega) (.cells #[.bool false, .int .i64 0, .string ⟨#[]⟩, .slice none 0 0] 62)) (by omega))
  have HG := Lib.hid (grown_alloc (World.grownBy.refl W (some R)) (.cells #[.bool false, .int .i64 0, .string ⟨#[]⟩, .slice none 0 0] 62))
  have HX := Lib.hid (.newAt rfl : Bx 62 (W.alloc (.cells #[.bool false, .int .i64 0, .string ⟨#[]⟩, .slice none 0 0] 62)) W.heap.size #[.bool false, .int .i64 0, .string ⟨#[]⟩, .slice none 0 0])
  have hf := tok_kind
  have hf2 := tok_num
  clear h
  go_enter Tryd.func58, Tryd.ntmps58
  go_wp2_with fail
  generalize (W.alloc (.cells #[.bool false, .int .i64 0, .string ⟨#[]⟩, .slice none 0 0] 62)) = w1 at *
  refine (opt_rd HR.out ⟨#[45]⟩).mono ?_
  rintro e w2 ⟨hg, ⟨hw, rfl, hr⟩ | ⟨hw, rfl, hr⟩⟩
  · skip
    have HW1 := Lib.hid hw
    have HLT1 := Lib.hid (isW_pos hw)
    clear hw
    have HG_ := Lib.hid (World.grownBy.trans HG.out hg)
    have HR_ := Lib.hid hr
    have HX_ := Lib.hid (HX.out.kept hg (by omega))
    clear hg hr HG HR HX
    have HG := HG_
    have HR := HR_
    have HX := HX_
    clear HG_ HR_ HX_
    have hnum := HR.out.ok.hd_num
    have hls := (List.length_tail : (ts.tail).tail.length = _)
    go_wp2_with fail
    refine (next_rd HR.out).mono ?_
    rintro e w3 ⟨rfl, hb⟩
    have HG_ := Lib.hid (grown_then HG.out hb HG.out.size)
    have HR_ := Lib.hid (HR.out.below hb HR.out.lt)
    have HX_ := Lib.hid (HX.out.below hb)
    clear hb HG HR HX
    have HG := HG_
    have HR := HR_
    have HX := HX_
    clear HG_ HR_ HX_
    by_cases hk2 : (hd (ts.tail)).k = 2
    · skip
      have HK := Lib.hid hk2
      have e2 : ((hd (ts.tail)).k == 2) = true := by rw [hk2]; rfl
      have HTK := Lib.hid (take_rd HR.out (by rw [hk2]; decide))
      go_wp2_with fail
      refine HTK.out.mono ?_
      rintro e w4 ⟨rfl, hg, hr⟩
      clear HTK
      have HG_ := Lib.hid (World.grownBy.trans HG.out hg)
      have HR_ := Lib.hid hr
      have HX_ := Lib.hid (HX.out.kept hg (by omega))
      clear hg hr HG HR HX
      have HG := HG_
      have HR := HR_
      have HX := HX_
      clear HG_ HR_ HX_
      obtain ⟨nn, hnn⟩ : ∃ nn, nn = (hd (ts.tail)).n := ⟨_, rfl⟩
      rw [← hnn] at hnum
      have HNN := Lib.hid hnn
      have hwr : wrap64 (-nn) = -nn := by unfold wrap64; omega
      have hng : (Op.unary .neg (.int .i64 nn)) = (Op.unary .neg (.int .i64 nn)) := rfl
      rw [← hnn]
      clear hk2 e2 hnn hng
      have HPF : Hid ((operP) ts = .ok (⟨true, -nn, ⟨noB, []⟩⟩, ts.tail.tail)) := Lib.hid (by rw [operP, optE_t HW1.out, numE_t HK.out]; exact (by rw [HNN.out]; rfl))
      have HPUT : ∀ w', Put W.heap.size (W.heap.size + 1) w4 w' → Does (operP) (Leads W Opr.d) W R ts (.returned (.agg #[.bool true, .int .i64 (-nn), .string ⟨#[]⟩, .slice none 0 0])) w' := fun w' hput => ⟨hput.grown HG.out (Nat.le_refl _), .inl ⟨⟨true, -nn, ⟨noB, []⟩⟩, ts.tail.tail, _, HPF.out, rfl, Leads.opr_mk (by exact Rd.nil _ _ _ _), HR.out.put hput hR, by have := HLT1.out; first | omega | (simp at *; done) | (simp at *; omega)⟩⟩
      obtain ⟨lHX, cHX, fHX⟩ := HX.out.see
      go_wp2_with fail
      refine bodyPost_ret (v := .agg #[.bool true, .int .i64 (-nn), .string ⟨#[]⟩, .slice none 0 0]) (by (simp only [results, Tryd.results58]); go_simp) rfl (HPUT _ ?_)
      repeat (first | with_reducible exact Put.refl _ _ _ | (with_reducible refine Put.set ?_ ?_ ?_ _; rotate_left; (simp only; omega); (simp only; omega)))
    · skip
      have HK := Lib.hid hk2
      have e2 : ((hd (ts.tail)).k == 2) = false := by simpa using hk2
      clear hk2
      go_wp2_with fail
      refine (next_rd HR.out).mono ?_
      rintro e w5 ⟨rfl, hb⟩
      have HG_ := Lib.hid (grown_then HG.out hb HG.out.size)
      have HR_ := Lib.hid (HR.out.below hb HR.out.lt)
      have HX_ := Lib.hid (HX.out.below hb)
      clear hb HG HR HX
      have HG := HG_
      have HR := HR_
      have HX := HX_
      clear HG_ HR_ HX_
      go_wp2_with fail
      refine (stop_rd HR.out 60).mono ?_
      rintro e w6 ⟨rfl, hb⟩
      go_wp2_with fail
      exact ⟨rfl, grown_then HG.out hb HG.out.size, .inr ⟨60, _, (by rw [operP, optE_t HW1.out, numE_f HK.out]; rfl), rfl⟩⟩
  · skip
    have HW1 := Lib.hid hw
    clear hw
    have HG_ := Lib.hid (World.grownBy.trans HG.out hg)
    have HR_ := Lib.hid hr
    have HX_ := Lib.hid (HX.out.kept hg (by omega))
    clear hg hr HG HR HX
    have HG := HG_
    have HR := HR_
    have HX := HX_
    clear HG_ HR_ HX_
    have hnum := HR.out.ok.hd_num
    have hls := (List.length_tail : (ts).tail.length = _)
    go_wp2_with fail
    refine (next_rd HR.out).mono ?_
    rintro e w7 ⟨rfl, hb⟩
    have HG_ := Lib.hid (grown_then HG.out hb HG.out.size)
    have HR_ := Lib.hid (HR.out.below hb HR.out.lt)
    have HX_ := Lib.hid (HX.out.below hb)
    clear hb HG HR HX
    have HG := HG_
    have HR := HR_
    have HX := HX_
    clear HG_ HR_ HX_
    by_cases hk2 : (hd (ts)).k = 2
    · skip
      have HK := Lib.hid hk2
      have e2 : ((hd (ts)).k == 2) = true := by rw [hk2]; rfl
      go_wp2_with fail
      refine (next_rd HR.out).mono ?_
      rintro e w8 ⟨rfl, hb⟩
      have HG_ := Lib.hid (grown_then HG.out hb HG.out.size)
      have HR_ := Lib.hid (HR.out.below hb HR.out.lt)
      have HX_ := Lib.hid (HX.out.below hb)
      clear hb HG HR HX
      have HG := HG_
      have HR := HR_
      have HX := HX_
      clear HG_ HR_ HX_
      have HTK := Lib.hid (take_rd HR.out (by rw [hk2]; decide))
      go_wp2_with fail
      refine HTK.out.mono ?_
      rintro e w9 ⟨rfl, hg, hr⟩
      clear HTK
      have HG_ := Lib.hid (World.grownBy.trans HG.out hg)
      have HR_ := Lib.hid hr
      have HX_ := Lib.hid (HX.out.kept hg (by omega))
      clear hg hr HG HR HX
      have HG := HG_
      have HR := HR_
      have HX := HX_
      clear HG_ HR_ HX_
      obtain ⟨nn, hnn⟩ : ∃ nn, nn = (hd (ts)).n := ⟨_, rfl⟩
      rw [← hnn] at hnum
      have HNN := Lib.hid hnn
      rw [← hnn]
      clear hk2 e2 hnn
      have HPF : Hid ((operP) ts = .ok (⟨true, nn, ⟨noB, []⟩⟩, ts.tail)) := Lib.hid (by rw [operP, optE_f HW1.out, numE_t HK.out]; exact (by rw [HNN.out]; rfl))
      have HPUT : ∀ w', Put W.heap.size (W.heap.size + 1) w9 w' → Does (operP) (Leads W Opr.d) W R ts (.returned (.agg #[.bool true, .int .i64 nn, .string ⟨#[]⟩, .slice none 0 0])) w' := fun w' hput => ⟨hput.grown HG.out (Nat.le_refl _), .inl ⟨⟨true, nn, ⟨noB, []⟩⟩, ts.tail, _, HPF.out, rfl, Leads.opr_mk (by exact Rd.nil _ _ _ _), HR.out.put hput hR, by first | omega | (simp at *; done) | (simp at *; omega)⟩⟩
      obtain ⟨lHX, cHX, fHX⟩ := HX.out.see
      go_wp2_with fail
      refine bodyPost_ret (v := .agg #[.bool true, .int .i64 nn, .string ⟨#[]⟩, .slice none 0 0]) (by (simp only [results, Tryd.results58]); go_simp) rfl (HPUT _ ?_)
      repeat (first | with_reducible exact Put.refl _ _ _ | (with_reducible refine Put.set ?_ ?_ ?_ _; rotate_left; (simp only; omega); (simp only; omega)))
    · skip
      have HK := Lib.hid hk2
      have e2 : ((hd (ts)).k == 2) = false := by simpa using hk2
      clear hk2
      go_wp2_with fail
      refine (next_rd HR.out).mono ?_
      rintro e w10 ⟨rfl, hb⟩
      have HG_ := Lib.hid (grown_then HG.out hb HG.out.size)
      have HR_ := Lib.hid (HR.out.below hb HR.out.lt)
      have HX_ := Lib.hid (HX.out.below hb)
      clear hb HG HR HX
      have HG := HG_
      have HR := HR_
      have HX := HX_
      clear HG_ HR_ HX_
      go_wp2_with fail
      refine (place_rd HR.out).mono ?_
      rintro e w11 ⟨hg, ⟨p, us2, v, hp, rfl, hv, hr, hle⟩ | ⟨er, at_, hp, rfl⟩⟩
      · skip
        obtain ⟨n', l', A, c, rfl, rfl, hl⟩ := hv.plc
        have hm3 := blk_lt HX.out
        have HL := Lib.hid (hl.low (m := W.heap.size + 1) (by omega))
        clear hl hv hm3
        have HP2 := Lib.hid hp
        have HLE2 := Lib.hid hle
        clear hp hle
        have HG_ := Lib.hid (World.grownBy.trans HG.out hg)
        have HR_ := Lib.hid hr
        have HX_ := Lib.hid (HX.out.kept hg (by omega))
        clear hg hr HG HR HX
        have HG := HG_
        have HR := HR_
        have HX := HX_
        clear HG_ HR_ HX_
        have HPF : Hid ((operP) ts = .ok (⟨false, 0, ⟨n', l'⟩⟩, us2)) := Lib.hid (by rw [operP, optE_f HW1.out, numE_f HK.out, Ps.bd_ok HP2.out]; exact rfl)
        have HPUT : ∀ w', Put W.heap.size (W.heap.size + 1) w11 w' → Does (operP) (Leads W Opr.d) W R ts (.returned (.agg #[.bool false, .int .i64 0, .string n', .slice A l'.length c])) w' := fun w' hput => ⟨hput.grown HG.out (Nat.le_refl _), .inl ⟨⟨false, 0, ⟨n', l'⟩⟩, us2, _, HPF.out, rfl, Leads.opr_mk ((HL.out.put hput (Nat.le_refl _)).low (by omega)), HR.out.put hput hR, by have := HLE2.out; first | omega | (simp at *; done) | (simp at *; omega)⟩⟩
        obtain ⟨lHX, cHX, fHX⟩ := HX.out.see
        go_wp2_with fail
        refine bodyPost_ret (v := .agg #[.bool false, .int .i64 0, .string n', .slice A l'.length c]) (by (simp only [results, Tryd.results58]); go_simp) rfl (HPUT _ ?_)
        repeat (first | with_reducible exact Put.refl _ _ _ | (with_reducible refine Put.set ?_ ?_ ?_ _; rotate_left; (simp only; omega); (simp only; omega)))
      · go_wp2_with fail
        exact ⟨rfl, World.grownBy.trans HG.out hg, .inr ⟨er, at_, (by rw [operP, optE_f HW1.out, numE_f HK.out]; exact Ps.bd_err hp), rfl⟩⟩
end Go.Proofs.YtjoiflokekebkaaDoor
