/- Texts of this claim in one file: R6f, R6v, R7, R7b, R6o, R8, R9, Rg. -/
import Derived.Test.YtjoiflokekebkaaGreatDoorM3
import Derived.Test.YtjoiflokekebkaaGreatDoorWLast
set_option linter.all false
section
/- Walks: a list of things with commas between. -/
namespace Go.Proofs.YtjoiflokekebkaaGreatDoor
open Go.RowKit

theorem info_Field : (Tryz.prog.info? 79).map (fun i => (i.zero, i.size, i.bytes)) = some (some (.agg #[.string ⟨#[]⟩, .int .i64 0, .string ⟨#[]⟩, .slice none 0 0]), 4, 64) := by kernel_rfl
theorem one_Field {W : World} {ok : Nat → Prop} {cs : List Value} {x : _} (h : Rds W ok cs (Fld.d x)) : ∃ a b c d, cs = [a, b, c, d] ∧ (∀ c ∈ cs, c.oneCell' = true) ∧ (Fld.d x).length = 4 := by
  have hl := h.length
  obtain ⟨a, b, c, d, rfl, h1⟩ := four_Field h
  exact ⟨a, b, c, d, rfl, h1, by rw [← hl]; rfl⟩
set_option maxRecDepth 100000 in
set_option maxHeartbeats 2000000 in
theorem list_Field {W : World} {R : Nat} {ts : List Tk} (h : Rdr W R ts) (fin : ByteArray) :
    Calls Tryz.prog 163 #[.pointer (some ⟨R, 0, none⟩), .string fin, .func (.func 164) #[.pointer (some ⟨R, 0, none⟩)] #[]] W fun e W' =>
      Does (listP fin fieldP) (fun W' v l => Rd W' (fun k => W.heap.size ≤ k) v (.row 79 4 (l.map Fld.d))) W R ts e W' := by
  have hR := h.lt
  have H := Lib.hid h
  have hts : ts.length ≤ 100000 := h.ok.len
  clear h
  go_enter Tryz.func163, Tryz.ntmps163
  go_wp2_with fail
  refine (opt_rd H.out fin).mono ?_
  rintro e w1 ⟨hg, ⟨hw, rfl, hr⟩ | ⟨hw, rfl, hr⟩⟩
  · have HG := Lib.hid hg
    have HR := Lib.hid hr
    have HW := Lib.hid hw
    clear hg hr hw
    go_wp2_with fail
    go_ret
    exact ⟨HG.out, .inl ⟨[], _, _, list_t HW.out, rfl, Rd.nil _ _ _ _, HR.out, by simp⟩⟩
  · have HG := Lib.hid hg
    have HR := Lib.hid hr
    have HW := Lib.hid hw
    clear hg hr hw
    go_wp2_with fail
    refine (field_rd HR.out).mono ?_
    rintro e w2 ⟨hg, ⟨x, us, v, hp, rfl, ⟨cs, rfl, hc⟩, hr, hle⟩ | ⟨er, at_, hp, rfl⟩⟩
    · obtain ⟨q0, q1, q2, q3, rfl, hone, hfl⟩ := one_Field hc
      have hs1 : W.heap.size ≤ w1.heap.size := HG.out.size
      have hlt := (Lt.field ts x us hp).2
      have HG2 := Lib.hid (World.grownBy.trans HG.out hg)
      have HL0 : Hid (Rd (w2.alloc (.cells #[q0, q1, q2, q3] 79)) (fun k => W.heap.size ≤ k) (.slice (some ⟨w2.heap.size, 0, none⟩) 1 1) (.row 79 4 ([x].map Fld.d))) := Lib.hid (Rd.lit w2 hc hfl (fun k hk => by have := hg.size; omega) (fun k hk => by omega))
      have HG3 := Lib.hid (grown_alloc HG2.out (.cells #[q0, q1, q2, q3] 79))
      have HR3 := Lib.hid (hr.below (bel_one hr.lt (.cells #[q0, q1, q2, q3] 79)) (by omega))
      have HP : Hid (listP fin fieldP ts = ((moreP fin fieldP (us.length + 1)).bd fun l => Ps.ret ([x] ++ l)) us) := Lib.hid (list_f HW.out hp)
      have hus : us.length ≤ ts.length := hle
      clear hg hp hc hr hle hone hfl HG HR HW HG2
      go_wp2_with fail
      generalize w2.alloc (.cells #[q0, q1, q2, q3] 79) = w3 at *
      go_loopg [7] (us.length + 1) (fun gk u7 wr => ∃ (us' : List Tk) (acc : List _) (A : Option Addr) (c n : Nat), u7 = .slice A acc.length c ∧ us'.length < gk ∧ us'.length < n ∧ acc.length + us'.length ≤ ts.length ∧ Hid (Rdr wr R us') ∧ Hid (W.grownBy wr (some R)) ∧ Hid (Rd wr (fun k => W.heap.size ≤ k) (.slice A acc.length c) (.row 79 4 (acc.map Fld.d))) ∧ Hid (listP fin fieldP ts = ((moreP fin fieldP n).bd fun l => Ps.ret (acc ++ l)) us'))
      case atStart => exact ⟨us, [x], _, _, us.length + 1, rfl, by omega, by omega, by simp; omega, HR3, HG3, HL0, HP⟩
      case round =>
        clear HR3 HG3 HL0 HP hlt
        obtain ⟨us', acc, A, c, n, rfl, hgk, hn, hacc, HR, HG, HL, HP⟩ := hrel
        obtain ⟨n, rfl⟩ : ∃ m, n = m + 1 := ⟨n - 1, by omega⟩
        go_wp2_with fail
        refine (opt_rd HR.out comma).mono ?_
        rintro e w4 ⟨hg, ⟨hw, rfl, hr⟩ | ⟨hw, rfl, hr⟩⟩
        · have htl : us'.tail.length < us'.length := isW_pos hw
          have HW := Lib.hid hw
          have HR4 := Lib.hid hr
          have HG4 := Lib.hid (World.grownBy.trans HG.out hg)
          have HL4 := Lib.hid (HL.out.kept hg hR)
          clear hw hr hg HR HG HL
          go_wp2_with fail
          refine (field_rd HR4.out).mono ?_
          rintro e w5 ⟨hg, ⟨y, us2, v, hp, rfl, ⟨cs2, rfl, hc⟩, hr, hle⟩ | ⟨er, at_, hp, rfl⟩⟩
          · obtain ⟨q0, q1, q2, q3, rfl, hone, hfl⟩ := one_Field hc
            have hs4 : W.heap.size ≤ w4.heap.size := HG4.out.size
            have HG5 := Lib.hid (World.grownBy.trans HG4.out hg)
            have HL5 := Lib.hid (HL4.out.kept hg hR)
            have HR5 := Lib.hid hr
            have HC := Lib.hid hc
            have HONE := Lib.hid hone
            have HP2 : Hid (listP fin fieldP ts = ((moreP fin fieldP n).bd fun l => Ps.ret ((acc ++ [y]) ++ l)) us2) := Lib.hid (by rw [HP.out, more_t HW.out hp])
            have HNE : Hid (∀ k, w4.heap.size ≤ k → (W.heap.size ≤ k ∧ (Value.slice A acc.length c).ownBlock ≠ some k)) := Lib.hid (fun k hk => ⟨by omega, fun e => by have := (HL4.out.new k e).2; omega⟩)
            have HGS := Lib.hid hg.size
            have HFL := Lib.hid hfl
            clear hg hp hc hr HG4 HL4 HR4 HW HP hone hfl
            go_wp2_with (first | (at_builtin; refine Rd.append_at (W := w5) (cs := [q0, q1, q2, q3]) (ok := fun k => W.heap.size ≤ k) (okp := fun k => w4.heap.size ≤ k) (l := acc.map Fld.d) rfl (.tmp 16) (.tmp 19) 47 (.agg #[.string ⟨#[]⟩, .int .i64 0, .string ⟨#[]⟩, .slice none 0 0]) 64 rfl Tryz.underlying47 info_Field rfl (by decide) (by decide) rfl rfl HL5.out HC.out HFL.out (fun k hk => by have := HGS.out; omega) HNE.out HONE.out (by rw [List.length_map]; omega) ?_; intro u6 w6 h6 hg6 hat6; obtain ⟨A6, c6, rfl⟩ := h6.slice; have HL6 := Lib.hid h6; have HG6 := Lib.hid (grown_own HG5.out hg6 (fun k hk => (HL5.out.new k hk).1)); have HR6 := Lib.hid (HR5.out.grown hg6 (fun k hk => by have := (HL5.out.new k hk).1; omega)); clear h6 hg6 hat6 HL5 HG5 HR5))
            have hl6 : (acc.map Fld.d ++ [Fld.d y]).length = (acc ++ [y]).length := by simp
            go_roundg (us2.length + 1)
            case measure => omega
            case rel => exact ⟨us2, acc ++ [y], A6, c6, n, by simp, by omega, by omega, by simp; omega, HR6, HG6, Lib.hid (by have h := HL6.out; rw [hl6] at h; simpa using h), HP2⟩
          · go_wp2_with fail
            exact ⟨rfl, World.grownBy.trans HG4.out hg, .inr ⟨er, at_, (by rw [HP.out]; exact more_te HW.out hp), rfl⟩⟩
        · have HW := Lib.hid hw
          have HR4 := Lib.hid hr
          have HG4 := Lib.hid (World.grownBy.trans HG.out hg)
          have HL4 := Lib.hid (HL.out.kept hg hR)
          clear hw hr hg HR HG HL
          go_wp2_with fail
          refine (must_rd HR4.out fin).mono ?_
          rintro e w5 ⟨hg, ⟨⟨⟩, us2, v, hp, rfl, rfl, hr, hle⟩ | ⟨er, at_, hp, rfl⟩⟩
          · have HG5 := Lib.hid (World.grownBy.trans HG4.out hg)
            have HL5 := Lib.hid (HL4.out.kept hg hR)
            have HR5 := Lib.hid hr
            have HP2 : Hid (listP fin fieldP ts = .ok (acc, us2)) := Lib.hid (by rw [HP.out, more_f HW.out hp])
            clear hg hp hr HG4 HL4 HR4 HW HP
            go_wp2_with fail
            go_ret
            exact ⟨HG5.out, .inl ⟨acc, us2, _, HP2.out, rfl, HL5.out, HR5.out, by omega⟩⟩
          · go_wp2_with fail
            exact ⟨rfl, World.grownBy.trans HG4.out hg, .inr ⟨er, at_, (by rw [HP.out]; exact more_fe HW.out hp), rfl⟩⟩
    · go_wp2_with fail
      exact ⟨rfl, World.grownBy.trans HG.out hg, .inr ⟨er, at_, list_fe HW.out hp, rfl⟩⟩
end Go.Proofs.YtjoiflokekebkaaGreatDoor
end

section
/- Walks: a list of things with commas between. -/
namespace Go.Proofs.YtjoiflokekebkaaGreatDoor
open Go.RowKit

theorem info_Variant : (Tryz.prog.info? 86).map (fun i => (i.zero, i.size, i.bytes)) = some (some (.agg #[.string ⟨#[]⟩, .int .i64 0, .string ⟨#[]⟩, .slice none 0 0]), 4, 64) := by kernel_rfl
theorem one_Variant {W : World} {ok : Nat → Prop} {cs : List Value} {x : _} (h : Rds W ok cs (Fld.d x)) : ∃ a b c d, cs = [a, b, c, d] ∧ (∀ c ∈ cs, c.oneCell' = true) ∧ (Fld.d x).length = 4 := by
  have hl := h.length
  obtain ⟨a, b, c, d, rfl, h1⟩ := four_Variant h
  exact ⟨a, b, c, d, rfl, h1, by rw [← hl]; rfl⟩
set_option maxRecDepth 100000 in
set_option maxHeartbeats 2000000 in
theorem list_Variant {W : World} {R : Nat} {ts : List Tk} (h : Rdr W R ts) (fin : ByteArray) :
    Calls Tryz.prog 165 #[.pointer (some ⟨R, 0, none⟩), .string fin, .func (.func 166) #[.pointer (some ⟨R, 0, none⟩)] #[]] W fun e W' =>
      Does (listP fin variantP) (fun W' v l => Rd W' (fun k => W.heap.size ≤ k) v (.row 86 4 (l.map Fld.d))) W R ts e W' := by
  have hR := h.lt
  have H := Lib.hid h
  have hts : ts.length ≤ 100000 := h.ok.len
  clear h
  go_enter Tryz.func165, Tryz.ntmps165
  go_wp2_with fail
  refine (opt_rd H.out fin).mono ?_
  rintro e w1 ⟨hg, ⟨hw, rfl, hr⟩ | ⟨hw, rfl, hr⟩⟩
  · have HG := Lib.hid hg
    have HR := Lib.hid hr
    have HW := Lib.hid hw
    clear hg hr hw
    go_wp2_with fail
    go_ret
    exact ⟨HG.out, .inl ⟨[], _, _, list_t HW.out, rfl, Rd.nil _ _ _ _, HR.out, by simp⟩⟩
  · have HG := Lib.hid hg
    have HR := Lib.hid hr
    have HW := Lib.hid hw
    clear hg hr hw
    go_wp2_with fail
    refine (variant_rd HR.out).mono ?_
    rintro e w2 ⟨hg, ⟨x, us, v, hp, rfl, ⟨cs, rfl, hc⟩, hr, hle⟩ | ⟨er, at_, hp, rfl⟩⟩
    · obtain ⟨q0, q1, q2, q3, rfl, hone, hfl⟩ := one_Variant hc
      have hs1 : W.heap.size ≤ w1.heap.size := HG.out.size
      have hlt := (Lt.variant ts x us hp).2
      have HG2 := Lib.hid (World.grownBy.trans HG.out hg)
      have HL0 : Hid (Rd (w2.alloc (.cells #[q0, q1, q2, q3] 86)) (fun k => W.heap.size ≤ k) (.slice (some ⟨w2.heap.size, 0, none⟩) 1 1) (.row 86 4 ([x].map Fld.d))) := Lib.hid (Rd.lit w2 hc hfl (fun k hk => by have := hg.size; omega) (fun k hk => by omega))
      have HG3 := Lib.hid (grown_alloc HG2.out (.cells #[q0, q1, q2, q3] 86))
      have HR3 := Lib.hid (hr.below (bel_one hr.lt (.cells #[q0, q1, q2, q3] 86)) (by omega))
      have HP : Hid (listP fin variantP ts = ((moreP fin variantP (us.length + 1)).bd fun l => Ps.ret ([x] ++ l)) us) := Lib.hid (list_f HW.out hp)
      have hus : us.length ≤ ts.length := hle
      clear hg hp hc hr hle hone hfl HG HR HW HG2
      go_wp2_with fail
      generalize w2.alloc (.cells #[q0, q1, q2, q3] 86) = w3 at *
      go_loopg [7] (us.length + 1) (fun gk u7 wr => ∃ (us' : List Tk) (acc : List _) (A : Option Addr) (c n : Nat), u7 = .slice A acc.length c ∧ us'.length < gk ∧ us'.length < n ∧ acc.length + us'.length ≤ ts.length ∧ Hid (Rdr wr R us') ∧ Hid (W.grownBy wr (some R)) ∧ Hid (Rd wr (fun k => W.heap.size ≤ k) (.slice A acc.length c) (.row 86 4 (acc.map Fld.d))) ∧ Hid (listP fin variantP ts = ((moreP fin variantP n).bd fun l => Ps.ret (acc ++ l)) us'))
      case atStart => exact ⟨us, [x], _, _, us.length + 1, rfl, by omega, by omega, by simp; omega, HR3, HG3, HL0, HP⟩
      case round =>
        clear HR3 HG3 HL0 HP hlt
        obtain ⟨us', acc, A, c, n, rfl, hgk, hn, hacc, HR, HG, HL, HP⟩ := hrel
        obtain ⟨n, rfl⟩ : ∃ m, n = m + 1 := ⟨n - 1, by omega⟩
        go_wp2_with fail
        refine (opt_rd HR.out comma).mono ?_
        rintro e w4 ⟨hg, ⟨hw, rfl, hr⟩ | ⟨hw, rfl, hr⟩⟩
        · have htl : us'.tail.length < us'.length := isW_pos hw
          have HW := Lib.hid hw
          have HR4 := Lib.hid hr
          have HG4 := Lib.hid (World.grownBy.trans HG.out hg)
          have HL4 := Lib.hid (HL.out.kept hg hR)
          clear hw hr hg HR HG HL
          go_wp2_with fail
          refine (variant_rd HR4.out).mono ?_
          rintro e w5 ⟨hg, ⟨y, us2, v, hp, rfl, ⟨cs2, rfl, hc⟩, hr, hle⟩ | ⟨er, at_, hp, rfl⟩⟩
          · obtain ⟨q0, q1, q2, q3, rfl, hone, hfl⟩ := one_Variant hc
            have hs4 : W.heap.size ≤ w4.heap.size := HG4.out.size
            have HG5 := Lib.hid (World.grownBy.trans HG4.out hg)
            have HL5 := Lib.hid (HL4.out.kept hg hR)
            have HR5 := Lib.hid hr
            have HC := Lib.hid hc
            have HONE := Lib.hid hone
            have HP2 : Hid (listP fin variantP ts = ((moreP fin variantP n).bd fun l => Ps.ret ((acc ++ [y]) ++ l)) us2) := Lib.hid (by rw [HP.out, more_t HW.out hp])
            have HNE : Hid (∀ k, w4.heap.size ≤ k → (W.heap.size ≤ k ∧ (Value.slice A acc.length c).ownBlock ≠ some k)) := Lib.hid (fun k hk => ⟨by omega, fun e => by have := (HL4.out.new k e).2; omega⟩)
            have HGS := Lib.hid hg.size
            have HFL := Lib.hid hfl
            clear hg hp hc hr HG4 HL4 HR4 HW HP hone hfl
            go_wp2_with (first | (at_builtin; refine Rd.append_at (W := w5) (cs := [q0, q1, q2, q3]) (ok := fun k => W.heap.size ≤ k) (okp := fun k => w4.heap.size ≤ k) (l := acc.map Fld.d) rfl (.tmp 16) (.tmp 19) 83 (.agg #[.string ⟨#[]⟩, .int .i64 0, .string ⟨#[]⟩, .slice none 0 0]) 64 rfl Tryz.underlying83 info_Variant rfl (by decide) (by decide) rfl rfl HL5.out HC.out HFL.out (fun k hk => by have := HGS.out; omega) HNE.out HONE.out (by rw [List.length_map]; omega) ?_; intro u6 w6 h6 hg6 hat6; obtain ⟨A6, c6, rfl⟩ := h6.slice; have HL6 := Lib.hid h6; have HG6 := Lib.hid (grown_own HG5.out hg6 (fun k hk => (HL5.out.new k hk).1)); have HR6 := Lib.hid (HR5.out.grown hg6 (fun k hk => by have := (HL5.out.new k hk).1; omega)); clear h6 hg6 hat6 HL5 HG5 HR5))
            have hl6 : (acc.map Fld.d ++ [Fld.d y]).length = (acc ++ [y]).length := by simp
            go_roundg (us2.length + 1)
            case measure => omega
            case rel => exact ⟨us2, acc ++ [y], A6, c6, n, by simp, by omega, by omega, by simp; omega, HR6, HG6, Lib.hid (by have h := HL6.out; rw [hl6] at h; simpa using h), HP2⟩
          · go_wp2_with fail
            exact ⟨rfl, World.grownBy.trans HG4.out hg, .inr ⟨er, at_, (by rw [HP.out]; exact more_te HW.out hp), rfl⟩⟩
        · have HW := Lib.hid hw
          have HR4 := Lib.hid hr
          have HG4 := Lib.hid (World.grownBy.trans HG.out hg)
          have HL4 := Lib.hid (HL.out.kept hg hR)
          clear hw hr hg HR HG HL
          go_wp2_with fail
          refine (must_rd HR4.out fin).mono ?_
          rintro e w5 ⟨hg, ⟨⟨⟩, us2, v, hp, rfl, rfl, hr, hle⟩ | ⟨er, at_, hp, rfl⟩⟩
          · have HG5 := Lib.hid (World.grownBy.trans HG4.out hg)
            have HL5 := Lib.hid (HL4.out.kept hg hR)
            have HR5 := Lib.hid hr
            have HP2 : Hid (listP fin variantP ts = .ok (acc, us2)) := Lib.hid (by rw [HP.out, more_f HW.out hp])
            clear hg hp hr HG4 HL4 HR4 HW HP
            go_wp2_with fail
            go_ret
            exact ⟨HG5.out, .inl ⟨acc, us2, _, HP2.out, rfl, HL5.out, HR5.out, by omega⟩⟩
          · go_wp2_with fail
            exact ⟨rfl, World.grownBy.trans HG4.out hg, .inr ⟨er, at_, (by rw [HP.out]; exact more_fe HW.out hp), rfl⟩⟩
    · go_wp2_with fail
      exact ⟨rfl, World.grownBy.trans HG.out hg, .inr ⟨er, at_, list_fe HW.out hp, rfl⟩⟩
end Go.Proofs.YtjoiflokekebkaaGreatDoor
end

section
/- Walks: a place. -/
namespace Go.Proofs.YtjoiflokekebkaaGreatDoor
open Go.RowKit

section
variable {n : Nat} {acc : List ByteArray} {ts us : List Tk} {x y : ByteArray}
abbrev dotW : ByteArray := ⟨#[46]⟩
abbrev starW : ByteArray := ⟨#[42]⟩
theorem steps_s (h1 : isW dotW ts = true) (h2 : isW starW ts.tail = true) : ((stepsP (n + 1)).bd fun l => Ps.ret (⟨x, acc ++ l⟩ : Plc)) ts = ((stepsP n).bd fun l => Ps.ret (⟨x, (acc ++ [noB]) ++ l⟩ : Plc)) ts.tail.tail := by
  have h : stepsP (n + 1) ts = ((stepsP n).bd fun l => .ret (noB :: l)) ts.tail.tail := (optE_t h1).trans (optE_t h2)
  unfold Ps.bd at h ⊢
  rw [h]
  cases stepsP n ts.tail.tail with
  | error e => rfl
  | ok q => simp [Ps.ret]
theorem steps_n (h1 : isW dotW ts = true) (h2 : isW starW ts.tail = false) (h3 : name false ts.tail = .ok (y, us)) : ((stepsP (n + 1)).bd fun l => Ps.ret (⟨x, acc ++ l⟩ : Plc)) ts = ((stepsP n).bd fun l => Ps.ret (⟨x, (acc ++ [y]) ++ l⟩ : Plc)) us := by
  have h : stepsP (n + 1) ts = ((name false).bd fun x => (stepsP n).bd fun l => .ret (x :: l)) ts.tail := (optE_t h1).trans (optE_f h2)
  rw [Ps.bd_ok h3] at h
  unfold Ps.bd at h ⊢
  rw [h]
  cases stepsP n us with
  | error e => rfl
  | ok q => simp [Ps.ret]
theorem steps_e {e : Int × Int} (h1 : isW dotW ts = true) (h2 : isW starW ts.tail = false) (h3 : name false ts.tail = .error e) : ((stepsP (n + 1)).bd fun l => Ps.ret (⟨x, acc ++ l⟩ : Plc)) ts = .error e := by
  have h : stepsP (n + 1) ts = ((name false).bd fun x => (stepsP n).bd fun l => .ret (x :: l)) ts.tail := (optE_t h1).trans (optE_f h2)
  rw [Ps.bd_err h3] at h
  exact Ps.bd_err h
theorem steps_f (h1 : isW dotW ts = false) : ((stepsP (n + 1)).bd fun l => Ps.ret (⟨x, acc ++ l⟩ : Plc)) ts = .ok (⟨x, acc⟩, ts) := by
  have h : stepsP (n + 1) ts = .ok ([], ts) := optE_f h1
  rw [Ps.bd_ok h]
  simp [Ps.ret]
end
theorem info_Step : (Tryz.prog.info? 104).map (fun i => (i.zero, i.size, i.bytes)) = some (some (.agg #[.string ⟨#[]⟩]), 1, 16) := by kernel_rfl

set_option maxRecDepth 100000 in
set_option maxHeartbeats 2000000 in
theorem place_rd {W : World} {R : Nat} {ts : List Tk} (h : Rdr W R ts) : Calls Tryz.prog 227 #[.pointer (some ⟨R, 0, none⟩)] W fun e W' => Does (placeP) (Leads W Plc.d) W R ts e W' := by
  have hR := h.lt
  have hlen := h.ok.len
  have HR := Lib.hid (h.below ((Below.refl (R + 1) W).alloc (by omega) (.cells #[.string ⟨#[]⟩, .slice none 0 0] 30)) (by omega))
  have HG := Lib.hid (grown_alloc (World.grownBy.refl W (some R)) (.cells #[.string ⟨#[]⟩, .slice none 0 0] 30))
  have HX := Lib.hid (.newAt rfl : Bx 30 (W.alloc (.cells #[.string ⟨#[]⟩, .slice none 0 0] 30)) W.heap.size #[.string ⟨#[]⟩, .slice none 0 0])
  clear h
  go_enter Tryz.func227, Tryz.ntmps227
  go_wp2_with fail
  generalize (W.alloc (.cells #[.string ⟨#[]⟩, .slice none 0 0] 30)) = w1 at *
  refine (name_rd HR.out false).mono ?_
  rintro e w2 ⟨hg, ⟨x, us, v, hp, rfl, rfl, hr, hle⟩ | ⟨er, at_, hp, rfl⟩⟩
  · skip
    have HP1 := Lib.hid hp
    have HLE1 := Lib.hid hle
    clear hp hle
    have HG_ := Lib.hid (World.grownBy.trans HG.out hg)
    have HR_ := Lib.hid hr
    have HX_ := Lib.hid (HX.out.kept hg (by omega))
    clear hg hr HG HR HX
    have HG := HG_
    have HR := HR_
    have HX := HX_
    clear HG_ HR_ HX_
    have hlm : W.heap.size < w2.heap.size := blk_lt HX.out
    have HG_ := Lib.hid (grown_alloc HG.out (.cells #[.string x, .slice none 0 0] 30))
    have HR_ := Lib.hid (HR.out.below (bel_one HR.out.lt (.cells #[.string x, .slice none 0 0] 30)) (by omega))
    have HX_ := Lib.hid (HX.out.alloc (.cells #[.string x, .slice none 0 0] 30))
    have HY_ : Hid (Bx 30 (w2.alloc (.cells #[.string x, .slice none 0 0] 30)) w2.heap.size #[.string x, .slice none 0 0]) := Lib.hid (.newAt rfl)
    clear HG HR HX
    have HG := HG_
    have HR := HR_
    have HX := HX_
    clear HG_ HR_ HX_
    have HY := HY_
    clear HY_
    go_wp2_with fail
    generalize w2.alloc (.cells #[.string x, .slice none 0 0] 30) = w3 at *
    generalize w2.heap.size = m at *
    have HP : Hid (placeP ts = ((stepsP (us.length + 1)).bd fun l => Ps.ret (⟨x, [] ++ l⟩ : Plc)) us) := Lib.hid (by rw [placeP, Ps.bd_ok HP1.out]; rfl)
    have HL : Hid (Rd w3 (fun k => m < k) (.slice none 0 0) (.row 104 1 (([] : List ByteArray).map stepD))) := Lib.hid (Rd.nil _ _ _ _)
    have hus := HLE1.out
    clear HP1 HLE1
    go_loopg [] (us.length + 1) (fun gk wr => ∃ (us' : List Tk) (acc : List ByteArray) (A : Option Addr) (c n : Nat), us'.length < gk ∧ us'.length < n ∧ acc.length + us'.length ≤ ts.length ∧ m < wr.heap.size ∧ Hid (Rdr wr R us') ∧ Hid (W.grownBy wr (some R)) ∧ Hid (Bx 30 wr W.heap.size #[.string ⟨#[]⟩, .slice none 0 0]) ∧ Hid (Bx 30 wr m #[.string x, .slice A acc.length c]) ∧ Hid (Rd wr (fun k => m < k) (.slice A acc.length c) (.row 104 1 (acc.map stepD))) ∧ Hid (placeP ts = ((stepsP n).bd fun l => Ps.ret (⟨x, acc ++ l⟩ : Plc)) us'))
    case atStart => exact ⟨us, [], none, 0, us.length + 1, by omega, by omega, by simpa using hus, blk_lt HY.out, HR, HG, HX, HY, HL, HP⟩
    case round =>
      clear HR HG HX HY HL HP
      obtain ⟨us', acc, A, c, n, hgk, hn, hacc, hmw, HR, HG, HX, HY, HL, HP⟩ := hrel
      obtain ⟨n, rfl⟩ : ∃ j, n = j + 1 := ⟨n - 1, by omega⟩
      go_wp2_with fail
      refine (opt_rd HR.out dotW).mono ?_
      rintro e w20 ⟨hg, ⟨hw, rfl, hr⟩ | ⟨hw, rfl, hr⟩⟩
      · have htl : us'.tail.length < us'.length := isW_pos hw
        have HD := Lib.hid hw
        clear hw
        have HG_ := Lib.hid (World.grownBy.trans HG.out hg)
        have HR_ := Lib.hid hr
        have HX_ := Lib.hid (HX.out.kept hg (by omega))
        have HY_ := Lib.hid (HY.out.kept hg (by omega))
        have HL_ := Lib.hid (HL.out.grown hg (fun k hk e => by injection e; omega))
        have hmw := blk_lt HY_.out
        clear hg hr HG HR HX HY HL
        have HG := HG_
        have HR := HR_
        have HX := HX_
        have HY := HY_
        have HL := HL_
        clear HG_ HR_ HX_ HY_ HL_
        have HG_ := Lib.hid (grown_alloc HG.out (.cells #[.string ⟨#[]⟩] 104))
        have HR_ := Lib.hid (HR.out.below (bel_one HR.out.lt (.cells #[.string ⟨#[]⟩] 104)) (by omega))
        have hmw2 := hmw
        have HX_ := Lib.hid (HX.out.alloc (.cells #[.string ⟨#[]⟩] 104))
        have HY_ := Lib.hid (HY.out.alloc (.cells #[.string ⟨#[]⟩] 104))
        have HL_ : Hid (Rd (w20.alloc (.cells #[.string ⟨#[]⟩] 104)) (fun k => m < k ∧ k ≠ w20.heap.size) (.slice A acc.length c) (.row 104 1 (acc.map stepD))) := Lib.hid ((HL.out.bound.bel ((Below.refl _ _).alloc (Nat.le_refl _) (.cells #[.string ⟨#[]⟩] 104))).mono (fun k hk => ⟨hk.1, by have := hk.2; omega⟩))
        have HZ_ : Hid (Bx 104 (w20.alloc (.cells #[.string ⟨#[]⟩] 104)) w20.heap.size #[.string ⟨#[]⟩]) := Lib.hid (.newAt rfl)
        clear HG HR HX HY HL
        have HG := HG_
        have HR := HR_
        have HX := HX_
        have HY := HY_
        have HL := HL_
        clear HG_ HR_ HX_ HY_ HL_
        have HZ := HZ_
        clear HZ_
        go_wp2_with fail
        generalize w20.alloc (.cells #[.string ⟨#[]⟩] 104) = w21 at *
        generalize w20.heap.size = z at *
        have hmz := hmw
        refine (opt_rd HR.out starW).mono ?_
        rintro e w22 ⟨hg, ⟨hw, rfl, hr⟩ | ⟨hw, rfl, hr⟩⟩
        · have hts2 : us'.tail.tail.length < us'.tail.length := isW_pos hw
          have HST := Lib.hid hw
          clear hw
          have HG_ := Lib.hid (World.grownBy.trans HG.out hg)
          have HR_ := Lib.hid hr
          have HX_ := Lib.hid (HX.out.kept hg (by omega))
          have HY_ := Lib.hid (HY.out.kept hg (by omega))
          have HZ_ := Lib.hid (HZ.out.kept hg (by omega))
          have HL_ := Lib.hid (HL.out.grown hg (fun k hk e => by injection e; omega))
          have hmw := blk_lt HY_.out
          clear hg hr HG HR HX HY HZ HL
          have HG := HG_
          have HR := HR_
          have HX := HX_
          have HY := HY_
          have HZ := HZ_
          have HL := HL_
          clear HG_ HR_ HX_ HY_ HZ_ HL_
          obtain ⟨lx, cx, fx⟩ := HX.out.see
          obtain ⟨ly, cy, fy⟩ := HY.out.see
          obtain ⟨lz, cz, fz⟩ := HZ.out.see
          have hne1 : (m = z) = False := eq_false (by omega)
          have hne2 : (z = m) = False := eq_false (by omega)
          have hx9 := blk_lt HX.out
          have hy9 := blk_lt HY.out
          have hz9 := blk_lt HZ.out
          have hc : Rds w22 (fun _ => False) [.string noB] (stepD noB) := ⟨.v _, trivial⟩
          have HC := Lib.hid hc
          clear hc
          have HNW : Hid (∀ k, W.heap.size ≤ k ∨ k ≤ m → True) := Lib.hid (fun _ _ => trivial)
          go_wp2_with (first | (at_builtin; refine Rd.append_at (W := w22) (ok := fun k => m < k ∧ k ≠ z) (okp := fun _ => False) (l := acc.map stepD) (cs := [.string noB]) rfl (.tmp 17) (.tmp 19) 28 (.agg #[.string ⟨#[]⟩]) 16 rfl Tryz.underlying28 info_Step rfl (by decide) (by decide) rfl rfl HL.out HC.out rfl (fun k hk => by omega) (fun k hk => hk.elim) (by simp [Value.oneCell']) (by rw [List.length_map]; omega) ?_; intro u6 w6 h6 hg6 hat6; obtain ⟨A6, c6, rfl⟩ := h6.slice; have hrow : ∀ k, (Value.slice A acc.length c).ownBlock = some k → m < k := (fun k hk => by obtain ⟨xs, ho, h1⟩ := HL.out.owns; exact (h1 k hk).1); have HL6 := Lib.hid h6; have HG6 := Lib.hid (grown_own HG.out hg6 (fun k hk => by have := hrow k hk; omega)); have HR6 := Lib.hid (HR.out.grown hg6 (fun k hk => by have := hrow k hk; omega)); have HX6 : Hid (Bx 30 w6 W.heap.size #[.string ⟨#[]⟩, .slice none 0 0]) := Lib.hid ((hg6.block _ hx9 (fun e => by have := hrow _ e.symm; omega)).trans HX.out); have HY6 : Hid (Bx 30 w6 m #[.string x, .slice A acc.length c]) := Lib.hid ((hg6.block _ hy9 (fun e => by have := hrow _ e.symm; omega)).trans HY.out); have hs6 := hg6.size; clear h6 hg6 hat6 HL HG HR HX HY HZ lx cx fx ly cy fy lz cz fz; obtain ⟨lx, cx, fx⟩ := HX6.out.see; obtain ⟨ly, cy, fy⟩ := HY6.out.see))
          have hl6 : (acc.map stepD ++ [stepD noB]).length = (acc ++ [noB]).length := by simp
          go_roundg (us'.tail.tail.length + 1)
          case measure => omega
          case rel => exact ⟨us'.tail.tail, acc ++ [noB], A6, c6, n, by omega, by omega, by simp at *; omega, by rw [World.size_setCell]; exact ly, Lib.hid (HR6.out.far (by simp only; omega) _), Lib.hid (grown_set HG6.out (by simp only; omega) _), Lib.hid (HX6.out.far (by simp only; omega) _), Lib.hid (by have h := HY6.out.set 1 (.slice A6 (acc.length + 1) c6); simpa using h), Lib.hid (by have h := HL6.out.far (p := ⟨m, 1, none⟩) (fun k hk => by have := hk.1; simp only; omega) (.slice A6 (acc.length + 1) c6); exact (by simpa using h.mono (ok' := fun k => m < k) (fun k hk => hk.1))), Lib.hid (by rw [HP.out]; exact steps_s HD.out HST.out)⟩
        · have HST := Lib.hid hw
          clear hw
          have HG_ := Lib.hid (World.grownBy.trans HG.out hg)
          have HR_ := Lib.hid hr
          have HX_ := Lib.hid (HX.out.kept hg (by omega))
          have HY_ := Lib.hid (HY.out.kept hg (by omega))
          have HZ_ := Lib.hid (HZ.out.kept hg (by omega))
          have HL_ := Lib.hid (HL.out.grown hg (fun k hk e => by injection e; omega))
          have hmw := blk_lt HY_.out
          clear hg hr HG HR HX HY HZ HL
          have HG := HG_
          have HR := HR_
          have HX := HX_
          have HY := HY_
          have HZ := HZ_
          have HL := HL_
          clear HG_ HR_ HX_ HY_ HZ_ HL_
          obtain ⟨lz, cz, fz⟩ := HZ.out.see
          go_wp2_with fail
          clear lz cz fz
          refine (name_rd HR.out false).mono ?_
          rintro e w23 ⟨hg, ⟨y, us2, v, hp, rfl, rfl, hr, hle⟩ | ⟨er, at_, hp, rfl⟩⟩
          · have HP3 := Lib.hid hp
            clear hp
            have HG_ := Lib.hid (World.grownBy.trans HG.out hg)
            have HR_ := Lib.hid hr
            have HX_ := Lib.hid (HX.out.kept hg (by omega))
            have HY_ := Lib.hid (HY.out.kept hg (by omega))
            have HZ_ := Lib.hid (HZ.out.kept hg (by omega))
            have HL_ := Lib.hid (HL.out.grown hg (fun k hk e => by injection e; omega))
            have hmw := blk_lt HY_.out
            clear hg hr HG HR HX HY HZ HL
            have HG := HG_
            have HR := HR_
            have HX := HX_
            have HY := HY_
            have HZ := HZ_
            have HL := HL_
            clear HG_ HR_ HX_ HY_ HZ_ HL_
            obtain ⟨lx, cx, fx⟩ := HX.out.see
            obtain ⟨ly, cy, fy⟩ := HY.out.see
            obtain ⟨lz, cz, fz⟩ := HZ.out.see
            have hne1 : (m = z) = False := eq_false (by omega)
            have hne2 : (z = m) = False := eq_false (by omega)
            have HG_ := Lib.hid (grown_set HG.out (p := ⟨z, 0, none⟩) (by simp only; omega) (.string y))
            have HR_ := Lib.hid (HR.out.far (p := ⟨z, 0, none⟩) (by simp only; omega) (.string y))
            have HX_ := Lib.hid (HX.out.far (p := ⟨z, 0, none⟩) (by simp only; omega) (.string y))
            have HY_ := Lib.hid (HY.out.far (p := ⟨z, 0, none⟩) (by simp only; omega) (.string y))
            have HZ_ := Lib.hid (HZ.out.set 0 (.string y))
            have HL_ := Lib.hid (HL.out.far (p := ⟨z, 0, none⟩) (fun k hk => hk.2) (.string y))
            clear HG HR HX HY HZ HL
            have HG := HG_
            have HR := HR_
            have HX := HX_
            have HY := HY_
            have HZ := HZ_
            have HL := HL_
            clear HG_ HR_ HX_ HY_ HZ_ HL_
            have hmw : m < (w23.setCell ⟨z, 0, none⟩ (.string y)).heap.size := blk_lt HY.out
            have hzw : z < (w23.setCell ⟨z, 0, none⟩ (.string y)).heap.size := blk_lt HZ.out
            have hx9 := blk_lt HX.out
            have hy9 := blk_lt HY.out
            have hz9 := blk_lt HZ.out
            have hc : Rds (w23.setCell ⟨z, 0, none⟩ (.string y)) (fun _ => False) [.string y] (stepD y) := ⟨.v _, trivial⟩
            have HC := Lib.hid hc
            clear hc
            have HNW : Hid (∀ k, W.heap.size ≤ k ∨ k ≤ m → True) := Lib.hid (fun _ _ => trivial)
            go_wp2_with (first | (at_builtin; refine Rd.append_at (W := (w23.setCell ⟨z, 0, none⟩ (.string y))) (ok := fun k => m < k ∧ k ≠ z) (okp := fun _ => False) (l := acc.map stepD) (cs := [.string y]) rfl (.tmp 17) (.tmp 19) 28 (.agg #[.string ⟨#[]⟩]) 16 rfl Tryz.underlying28 info_Step rfl (by decide) (by decide) rfl (by rw [World.size_setCell]; rfl) HL.out HC.out rfl (fun k hk => by omega) (fun k hk => hk.elim) (by simp [Value.oneCell']) (by rw [List.length_map]; omega) ?_; intro u6 w6 h6 hg6 hat6; obtain ⟨A6, c6, rfl⟩ := h6.slice; have hrow : ∀ k, (Value.slice A acc.length c).ownBlock = some k → m < k := (fun k hk => by obtain ⟨xs, ho, h1⟩ := HL.out.owns; exact (h1 k hk).1); have HL6 := Lib.hid h6; have HG6 := Lib.hid (grown_own HG.out hg6 (fun k hk => by have := hrow k hk; omega)); have HR6 := Lib.hid (HR.out.grown hg6 (fun k hk => by have := hrow k hk; omega)); have HX6 : Hid (Bx 30 w6 W.heap.size #[.string ⟨#[]⟩, .slice none 0 0]) := Lib.hid ((hg6.block _ hx9 (fun e => by have := hrow _ e.symm; omega)).trans HX.out); have HY6 : Hid (Bx 30 w6 m #[.string x, .slice A acc.length c]) := Lib.hid ((hg6.block _ hy9 (fun e => by have := hrow _ e.symm; omega)).trans HY.out); have hs6 := hg6.size; clear h6 hg6 hat6 HL HG HR HX HY HZ lx cx fx ly cy fy lz cz fz; obtain ⟨lx, cx, fx⟩ := HX6.out.see; obtain ⟨ly, cy, fy⟩ := HY6.out.see))
            have hl6 : (acc.map stepD ++ [stepD y]).length = (acc ++ [y]).length := by simp
            go_roundg (us2.length + 1)
            case measure => omega
            case rel => exact ⟨us2, acc ++ [y], A6, c6, n, by omega, by omega, by simp at *; omega, by rw [World.size_setCell]; exact ly, Lib.hid (HR6.out.far (by simp only; omega) _), Lib.hid (grown_set HG6.out (by simp only; omega) _), Lib.hid (HX6.out.far (by simp only; omega) _), Lib.hid (by have h := HY6.out.set 1 (.slice A6 (acc.length + 1) c6); simpa using h), Lib.hid (by have h := HL6.out.far (p := ⟨m, 1, none⟩) (fun k hk => by have := hk.1; simp only; omega) (.slice A6 (acc.length + 1) c6); exact (by simpa using h.mono (ok' := fun k => m < k) (fun k hk => hk.1))), Lib.hid (by rw [HP.out]; exact steps_n HD.out HST.out HP3.out)⟩
          · go_wp2_with fail
            exact ⟨rfl, World.grownBy.trans HG.out hg, .inr ⟨er, at_, (by rw [HP.out]; exact steps_e HD.out HST.out hp), rfl⟩⟩
      · have HD := Lib.hid hw
        clear hw
        have HG_ := Lib.hid (World.grownBy.trans HG.out hg)
        have HR_ := Lib.hid hr
        have HX_ := Lib.hid (HX.out.kept hg (by omega))
        have HY_ := Lib.hid (HY.out.kept hg (by omega))
        have HL_ := Lib.hid (HL.out.grown hg (fun k hk e => by injection e; omega))
        have hmw := blk_lt HY_.out
        clear hg hr HG HR HX HY HL
        have HG := HG_
        have HR := HR_
        have HX := HX_
        have HY := HY_
        have HL := HL_
        clear HG_ HR_ HX_ HY_ HL_
        have HPE : Hid (placeP ts = .ok (⟨x, acc⟩, us')) := Lib.hid (by rw [HP.out]; exact steps_f HD.out)
        have HPUT : ∀ w', Put W.heap.size (m + 1) w20 w' → Does placeP (Leads W Plc.d) W R ts (.returned (.agg #[.string x, .slice A acc.length c])) w' := fun w' hput => ⟨hput.grown HG.out (Nat.le_refl _), .inl ⟨⟨x, acc⟩, us', _, HPE.out, rfl, Leads.plc_mk ((HL.out.step (fun k hk _ => hput.block k (.inr (by omega)))).mono (fun k hk => by omega)), HR.out.put hput hR, by omega⟩⟩
        obtain ⟨lHX, cHX, fHX⟩ := HX.out.see
        obtain ⟨lHY, cHY, fHY⟩ := HY.out.see
        have hne01 : (W.heap.size = m) = False := eq_false (by omega)
        have hne10 : (m = W.heap.size) = False := eq_false (by omega)
        go_wp2_with fail
        refine bodyPost_ret (v := .agg #[.string x, .slice A acc.length c]) (by (simp only [results, Tryz.results227]); go_simp) rfl (HPUT _ ?_)
        repeat (first | with_reducible exact Put.refl _ _ _ | (with_reducible refine Put.set ?_ ?_ ?_ _; rotate_left; (simp only; omega); (simp only; omega)))
  · go_wp2_with fail
    exact ⟨rfl, World.grownBy.trans HG.out hg, .inr ⟨er, at_, (by rw [placeP]; exact Ps.bd_err hp), rfl⟩⟩
end Go.Proofs.YtjoiflokekebkaaGreatDoor
end

section
/- Walks: an operand. -/
namespace Go.Proofs.YtjoiflokekebkaaGreatDoor
open Go.RowKit

theorem numE_t {α : Type} {p : Int → Ps α} {q : Ps α} {ts : List Tk} (h : (hd ts).k = 2) : numE p q ts = p (hd ts).n ts.tail := by rw [numE, if_pos h]
theorem numE_f {α : Type} {p : Int → Ps α} {q : Ps α} {ts : List Tk} (h : ¬ (hd ts).k = 2) : numE p q ts = q ts := by rw [numE, if_neg h]
theorem Leads.opr_mk {W W' : World} {b : Bool} {n : Int} {m : ByteArray} {l : List ByteArray} {u : Value} (h : Rd W' (fun j => W.heap.size ≤ j) u (.row 104 1 (l.map stepD))) : Leads W Opr.d W' (.agg #[.bool b, .int .i64 n, .string m, u]) ⟨b, n, ⟨m, l⟩⟩ :=
  ⟨[.bool b, .int .i64 n, .string m, u], rfl, ⟨.v _, .v _, .v _, h, trivial⟩⟩
theorem Leads.opr {W W' : World} {v : Value} {x : Opr} (h : Leads W Opr.d W' v x) : ∃ b n m l A c, x = ⟨b, n, ⟨m, l⟩⟩ ∧ v = .agg #[.bool b, .int .i64 n, .string m, .slice A l.length c] ∧ Rd W' (fun j => W.heap.size ≤ j) (.slice A l.length c) (.row 104 1 (l.map stepD)) := by
  obtain ⟨cs, rfl, hc⟩ := h
  obtain ⟨b, n, m, l⟩ := x
  match cs, hc with
  | [a0, a1, a2, u], hc =>
    obtain ⟨h1, h2, h3, h4, _⟩ := hc
    obtain rfl := h1.v_eq
    obtain rfl := h2.v_eq
    obtain rfl := h3.v_eq
    obtain ⟨A, c, rfl⟩ := h4.slice
    rw [List.length_map] at h4 ⊢
    exact ⟨b, n, m, l, A, c, rfl, rfl, h4⟩
theorem four_Oper {W : World} {ok : Nat → Prop} {cs : List Value} {x : Opr} (h : Rds W ok cs (Opr.d x)) : ∃ a b c d, cs = [a, b, c, d] ∧ ∀ y ∈ cs, y.oneCell' = true := by
  obtain ⟨b, n, m, l⟩ := x
  match cs, h with
  | [a0, a1, a2, u], h =>
    obtain ⟨h1, h2, h3, h4, _⟩ := h
    obtain rfl := h1.v_eq
    obtain rfl := h2.v_eq
    obtain rfl := h3.v_eq
    obtain ⟨A, c, rfl⟩ := h4.slice
    exact ⟨_, _, _, _, rfl, by simp [Value.oneCell']⟩
theorem Toks.hd_num {ts : List Tk} (h : Toks ts) : -9223372036854775807 ≤ (hd ts).n ∧ (hd ts).n ≤ 9223372036854775807 := by
  cases ts with
  | nil => exact absurd rfl h.ne
  | cons t r => exact h.num t (by simp)

set_option maxRecDepth 100000 in
set_option maxHeartbeats 2000000 in
theorem oper_rd {W : World} {R : Nat} {ts : List Tk} (h : Rdr W R ts) : Calls Tryz.prog 215 #[.pointer (some ⟨R, 0, none⟩)] W fun e W' => Does (operP) (Leads W Opr.d) W R ts e W' := by
  have hR := h.lt
  have hlen := h.ok.len
  have HR := Lib.hid (h.below ((Below.refl (R + 1) W).alloc (by omega) (.cells #[.bool false, .int .i64 0, .string ⟨#[]⟩, .slice none 0 0] 53)) (by omega))
  have HG := Lib.hid (grown_alloc (World.grownBy.refl W (some R)) (.cells #[.bool false, .int .i64 0, .string ⟨#[]⟩, .slice none 0 0] 53))
  have HX := Lib.hid (.newAt rfl : Bx 53 (W.alloc (.cells #[.bool false, .int .i64 0, .string ⟨#[]⟩, .slice none 0 0] 53)) W.heap.size #[.bool false, .int .i64 0, .string ⟨#[]⟩, .slice none 0 0])
  have hf := tok_kind
  have hf2 := tok_num
  clear h
  go_enter Tryz.func215, Tryz.ntmps215
  go_wp2_with fail
  generalize (W.alloc (.cells #[.bool false, .int .i64 0, .string ⟨#[]⟩, .slice none 0 0] 53)) = w1 at *
  refine (opt_rd HR.out ⟨#[45]⟩).mono ?_
  rintro e w2 ⟨hg, ⟨hw, rfl, hr⟩ | ⟨hw, rfl, hr⟩⟩
  · skip
    have HW1 := Lib.hid hw
    have HLT1 := Lib.hid (isW_pos hw)
    clear hw
    have HG_ := Lib.hid (World.grownBy.trans HG.out hg)
    have HR_ := Lib.hid hr
    have HX_ := Lib.hid (HX.out.kept hg (by omega))
    clear hg hr HG HR HX
    have HG := HG_
    have HR := HR_
    have HX := HX_
    clear HG_ HR_ HX_
    have hnum := HR.out.ok.hd_num
    have hls := (List.length_tail : (ts.tail).tail.length = _)
    go_wp2_with fail
    refine (next_rd HR.out).mono ?_
    rintro e w3 ⟨rfl, hb⟩
    have HG_ := Lib.hid (grown_then HG.out hb HG.out.size)
    have HR_ := Lib.hid (HR.out.below hb HR.out.lt)
    have HX_ := Lib.hid (HX.out.below hb)
    clear hb HG HR HX
    have HG := HG_
    have HR := HR_
    have HX := HX_
    clear HG_ HR_ HX_
    by_cases hk2 : (hd (ts.tail)).k = 2
    · skip
      have HK := Lib.hid hk2
      have e2 : ((hd (ts.tail)).k == 2) = true := by rw [hk2]; rfl
      have HTK := Lib.hid (take_rd HR.out (by rw [hk2]; decide))
      go_wp2_with fail
      refine HTK.out.mono ?_
      rintro e w4 ⟨rfl, hg, hr⟩
      clear HTK
      have HG_ := Lib.hid (World.grownBy.trans HG.out hg)
      have HR_ := Lib.hid hr
      have HX_ := Lib.hid (HX.out.kept hg (by omega))
      clear hg hr HG HR HX
      have HG := HG_
      have HR := HR_
      have HX := HX_
      clear HG_ HR_ HX_
      obtain ⟨nn, hnn⟩ : ∃ nn, nn = (hd (ts.tail)).n := ⟨_, rfl⟩
      rw [← hnn] at hnum
      have HNN := Lib.hid hnn
      have hwr : wrap64 (-nn) = -nn := by unfold wrap64; omega
      have hng : (Op.unary .neg (.int .i64 nn)) = (Op.unary .neg (.int .i64 nn)) := rfl
      rw [← hnn]
      clear hk2 e2 hnn hng
      have HPF : Hid ((operP) ts = .ok (⟨true, -nn, ⟨noB, []⟩⟩, ts.tail.tail)) := Lib.hid (by rw [operP, optE_t HW1.out, numE_t HK.out]; exact (by rw [HNN.out]; rfl))
      have HPUT : ∀ w', Put W.heap.size (W.heap.size + 1) w4 w' → Does (operP) (Leads W Opr.d) W R ts (.returned (.agg #[.bool true, .int .i64 (-nn), .string ⟨#[]⟩, .slice none 0 0])) w' := fun w' hput => ⟨hput.grown HG.out (Nat.le_refl _), .inl ⟨⟨true, -nn, ⟨noB, []⟩⟩, ts.tail.tail, _, HPF.out, rfl, Leads.opr_mk (by exact Rd.nil _ _ _ _), HR.out.put hput hR, by have := HLT1.out; first | omega | (simp at *; done) | (simp at *; omega)⟩⟩
      obtain ⟨lHX, cHX, fHX⟩ := HX.out.see
      go_wp2_with fail
      refine bodyPost_ret (v := .agg #[.bool true, .int .i64 (-nn), .string ⟨#[]⟩, .slice none 0 0]) (by (simp only [results, Tryz.results215]); go_simp) rfl (HPUT _ ?_)
      repeat (first | with_reducible exact Put.refl _ _ _ | (with_reducible refine Put.set ?_ ?_ ?_ _; rotate_left; (simp only; omega); (simp only; omega)))
    · skip
      have HK := Lib.hid hk2
      have e2 : ((hd (ts.tail)).k == 2) = false := by simpa using hk2
      clear hk2
      go_wp2_with fail
      refine (next_rd HR.out).mono ?_
      rintro e w5 ⟨rfl, hb⟩
      have HG_ := Lib.hid (grown_then HG.out hb HG.out.size)
      have HR_ := Lib.hid (HR.out.below hb HR.out.lt)
      have HX_ := Lib.hid (HX.out.below hb)
      clear hb HG HR HX
      have HG := HG_
      have HR := HR_
      have HX := HX_
      clear HG_ HR_ HX_
      go_wp2_with fail
      refine (stop_rd HR.out 60).mono ?_
      rintro e w6 ⟨rfl, hb⟩
      go_wp2_with fail
      exact ⟨rfl, grown_then HG.out hb HG.out.size, .inr ⟨60, _, (by rw [operP, optE_t HW1.out, numE_f HK.out]; rfl), rfl⟩⟩
  · skip
    have HW1 := Lib.hid hw
    clear hw
    have HG_ := Lib.hid (World.grownBy.trans HG.out hg)
    have HR_ := Lib.hid hr
    have HX_ := Lib.hid (HX.out.kept hg (by omega))
    clear hg hr HG HR HX
    have HG := HG_
    have HR := HR_
    have HX := HX_
    clear HG_ HR_ HX_
    have hnum := HR.out.ok.hd_num
    have hls := (List.length_tail : (ts).tail.length = _)
    go_wp2_with fail
    refine (next_rd HR.out).mono ?_
    rintro e w7 ⟨rfl, hb⟩
    have HG_ := Lib.hid (grown_then HG.out hb HG.out.size)
    have HR_ := Lib.hid (HR.out.below hb HR.out.lt)
    have HX_ := Lib.hid (HX.out.below hb)
    clear hb HG HR HX
    have HG := HG_
    have HR := HR_
    have HX := HX_
    clear HG_ HR_ HX_
    by_cases hk2 : (hd (ts)).k = 2
    · skip
      have HK := Lib.hid hk2
      have e2 : ((hd (ts)).k == 2) = true := by rw [hk2]; rfl
      go_wp2_with fail
      refine (next_rd HR.out).mono ?_
      rintro e w8 ⟨rfl, hb⟩
      have HG_ := Lib.hid (grown_then HG.out hb HG.out.size)
      have HR_ := Lib.hid (HR.out.below hb HR.out.lt)
      have HX_ := Lib.hid (HX.out.below hb)
      clear hb HG HR HX
      have HG := HG_
      have HR := HR_
      have HX := HX_
      clear HG_ HR_ HX_
      have HTK := Lib.hid (take_rd HR.out (by rw [hk2]; decide))
      go_wp2_with fail
      refine HTK.out.mono ?_
      rintro e w9 ⟨rfl, hg, hr⟩
      clear HTK
      have HG_ := Lib.hid (World.grownBy.trans HG.out hg)
      have HR_ := Lib.hid hr
      have HX_ := Lib.hid (HX.out.kept hg (by omega))
      clear hg hr HG HR HX
      have HG := HG_
      have HR := HR_
      have HX := HX_
      clear HG_ HR_ HX_
      obtain ⟨nn, hnn⟩ : ∃ nn, nn = (hd (ts)).n := ⟨_, rfl⟩
      rw [← hnn] at hnum
      have HNN := Lib.hid hnn
      rw [← hnn]
      clear hk2 e2 hnn
      have HPF : Hid ((operP) ts = .ok (⟨true, nn, ⟨noB, []⟩⟩, ts.tail)) := Lib.hid (by rw [operP, optE_f HW1.out, numE_t HK.out]; exact (by rw [HNN.out]; rfl))
      have HPUT : ∀ w', Put W.heap.size (W.heap.size + 1) w9 w' → Does (operP) (Leads W Opr.d) W R ts (.returned (.agg #[.bool true, .int .i64 nn, .string ⟨#[]⟩, .slice none 0 0])) w' := fun w' hput => ⟨hput.grown HG.out (Nat.le_refl _), .inl ⟨⟨true, nn, ⟨noB, []⟩⟩, ts.tail, _, HPF.out, rfl, Leads.opr_mk (by exact Rd.nil _ _ _ _), HR.out.put hput hR, by first | omega | (simp at *; done) | (simp at *; omega)⟩⟩
      obtain ⟨lHX, cHX, fHX⟩ := HX.out.see
      go_wp2_with fail
      refine bodyPost_ret (v := .agg #[.bool true, .int .i64 nn, .string ⟨#[]⟩, .slice none 0 0]) (by (simp only [results, Tryz.results215]); go_simp) rfl (HPUT _ ?_)
      repeat (first | with_reducible exact Put.refl _ _ _ | (with_reducible refine Put.set ?_ ?_ ?_ _; rotate_left; (simp only; omega); (simp only; omega)))
    · skip
      have HK := Lib.hid hk2
      have e2 : ((hd (ts)).k == 2) = false := by simpa using hk2
      clear hk2
      go_wp2_with fail
      refine (next_rd HR.out).mono ?_
      rintro e w10 ⟨rfl, hb⟩
      have HG_ := Lib.hid (grown_then HG.out hb HG.out.size)
      have HR_ := Lib.hid (HR.out.below hb HR.out.lt)
      have HX_ := Lib.hid (HX.out.below hb)
      clear hb HG HR HX
      have HG := HG_
      have HR := HR_
      have HX := HX_
      clear HG_ HR_ HX_
      go_wp2_with fail
      refine (place_rd HR.out).mono ?_
      rintro e w11 ⟨hg, ⟨p, us2, v, hp, rfl, hv, hr, hle⟩ | ⟨er, at_, hp, rfl⟩⟩
      · skip
        obtain ⟨n', l', A, c, rfl, rfl, hl⟩ := hv.plc
        have hm3 := blk_lt HX.out
        have HL := Lib.hid (hl.low (m := W.heap.size + 1) (by omega))
        clear hl hv hm3
        have HP2 := Lib.hid hp
        have HLE2 := Lib.hid hle
        clear hp hle
        have HG_ := Lib.hid (World.grownBy.trans HG.out hg)
        have HR_ := Lib.hid hr
        have HX_ := Lib.hid (HX.out.kept hg (by omega))
        clear hg hr HG HR HX
        have HG := HG_
        have HR := HR_
        have HX := HX_
        clear HG_ HR_ HX_
        have HPF : Hid ((operP) ts = .ok (⟨false, 0, ⟨n', l'⟩⟩, us2)) := Lib.hid (by rw [operP, optE_f HW1.out, numE_f HK.out, Ps.bd_ok HP2.out]; exact rfl)
        have HPUT : ∀ w', Put W.heap.size (W.heap.size + 1) w11 w' → Does (operP) (Leads W Opr.d) W R ts (.returned (.agg #[.bool false, .int .i64 0, .string n', .slice A l'.length c])) w' := fun w' hput => ⟨hput.grown HG.out (Nat.le_refl _), .inl ⟨⟨false, 0, ⟨n', l'⟩⟩, us2, _, HPF.out, rfl, Leads.opr_mk ((HL.out.put hput (Nat.le_refl _)).low (by omega)), HR.out.put hput hR, by have := HLE2.out; first | omega | (simp at *; done) | (simp at *; omega)⟩⟩
        obtain ⟨lHX, cHX, fHX⟩ := HX.out.see
        go_wp2_with fail
        refine bodyPost_ret (v := .agg #[.bool false, .int .i64 0, .string n', .slice A l'.length c]) (by (simp only [results, Tryz.results215]); go_simp) rfl (HPUT _ ?_)
        repeat (first | with_reducible exact Put.refl _ _ _ | (with_reducible refine Put.set ?_ ?_ ?_ _; rotate_left; (simp only; omega); (simp only; omega)))
      · go_wp2_with fail
        exact ⟨rfl, World.grownBy.trans HG.out hg, .inr ⟨er, at_, (by rw [operP, optE_f HW1.out, numE_f HK.out]; exact Ps.bd_err hp), rfl⟩⟩
end Go.Proofs.YtjoiflokekebkaaGreatDoor
end

section
/- Walks: a list of things with commas between. -/
namespace Go.Proofs.YtjoiflokekebkaaGreatDoor
open Go.RowKit

theorem info_Oper : (Tryz.prog.info? 53).map (fun i => (i.zero, i.size, i.bytes)) = some (some (.agg #[.bool false, .int .i64 0, .string ⟨#[]⟩, .slice none 0 0]), 4, 56) := by kernel_rfl
theorem one_Oper {W : World} {ok : Nat → Prop} {cs : List Value} {x : _} (h : Rds W ok cs (Opr.d x)) : ∃ a b c d, cs = [a, b, c, d] ∧ (∀ c ∈ cs, c.oneCell' = true) ∧ (Opr.d x).length = 4 := by
  have hl := h.length
  obtain ⟨a, b, c, d, rfl, h1⟩ := four_Oper h
  exact ⟨a, b, c, d, rfl, h1, by rw [← hl]; rfl⟩
set_option maxRecDepth 100000 in
set_option maxHeartbeats 2000000 in
theorem list_Oper {W : World} {R : Nat} {ts : List Tk} (h : Rdr W R ts) (fin : ByteArray) :
    Calls Tryz.prog 236 #[.pointer (some ⟨R, 0, none⟩), .string fin, .func (.func 215) #[.pointer (some ⟨R, 0, none⟩)] #[]] W fun e W' =>
      Does (listP fin operP) (fun W' v l => Rd W' (fun k => W.heap.size ≤ k) v (.row 53 4 (l.map Opr.d))) W R ts e W' := by
  have hR := h.lt
  have H := Lib.hid h
  have hts : ts.length ≤ 100000 := h.ok.len
  clear h
  go_enter Tryz.func236, Tryz.ntmps236
  go_wp2_with fail
  refine (opt_rd H.out fin).mono ?_
  rintro e w1 ⟨hg, ⟨hw, rfl, hr⟩ | ⟨hw, rfl, hr⟩⟩
  · have HG := Lib.hid hg
    have HR := Lib.hid hr
    have HW := Lib.hid hw
    clear hg hr hw
    go_wp2_with fail
    go_ret
    exact ⟨HG.out, .inl ⟨[], _, _, list_t HW.out, rfl, Rd.nil _ _ _ _, HR.out, by simp⟩⟩
  · have HG := Lib.hid hg
    have HR := Lib.hid hr
    have HW := Lib.hid hw
    clear hg hr hw
    go_wp2_with fail
    refine (oper_rd HR.out).mono ?_
    rintro e w2 ⟨hg, ⟨x, us, v, hp, rfl, ⟨cs, rfl, hc⟩, hr, hle⟩ | ⟨er, at_, hp, rfl⟩⟩
    · obtain ⟨q0, q1, q2, q3, rfl, hone, hfl⟩ := one_Oper hc
      have hs1 : W.heap.size ≤ w1.heap.size := HG.out.size
      have hlt := (Lt.oper ts x us hp).2
      have HG2 := Lib.hid (World.grownBy.trans HG.out hg)
      have HL0 : Hid (Rd (w2.alloc (.cells #[q0, q1, q2, q3] 53)) (fun k => W.heap.size ≤ k) (.slice (some ⟨w2.heap.size, 0, none⟩) 1 1) (.row 53 4 ([x].map Opr.d))) := Lib.hid (Rd.lit w2 hc hfl (fun k hk => by have := hg.size; omega) (fun k hk => by omega))
      have HG3 := Lib.hid (grown_alloc HG2.out (.cells #[q0, q1, q2, q3] 53))
      have HR3 := Lib.hid (hr.below (bel_one hr.lt (.cells #[q0, q1, q2, q3] 53)) (by omega))
      have HP : Hid (listP fin operP ts = ((moreP fin operP (us.length + 1)).bd fun l => Ps.ret ([x] ++ l)) us) := Lib.hid (list_f HW.out hp)
      have hus : us.length ≤ ts.length := hle
      clear hg hp hc hr hle hone hfl HG HR HW HG2
      go_wp2_with fail
      generalize w2.alloc (.cells #[q0, q1, q2, q3] 53) = w3 at *
      go_loopg [7] (us.length + 1) (fun gk u7 wr => ∃ (us' : List Tk) (acc : List _) (A : Option Addr) (c n : Nat), u7 = .slice A acc.length c ∧ us'.length < gk ∧ us'.length < n ∧ acc.length + us'.length ≤ ts.length ∧ Hid (Rdr wr R us') ∧ Hid (W.grownBy wr (some R)) ∧ Hid (Rd wr (fun k => W.heap.size ≤ k) (.slice A acc.length c) (.row 53 4 (acc.map Opr.d))) ∧ Hid (listP fin operP ts = ((moreP fin operP n).bd fun l => Ps.ret (acc ++ l)) us'))
      case atStart => exact ⟨us, [x], _, _, us.length + 1, rfl, by omega, by omega, by simp; omega, HR3, HG3, HL0, HP⟩
      case round =>
        clear HR3 HG3 HL0 HP hlt
        obtain ⟨us', acc, A, c, n, rfl, hgk, hn, hacc, HR, HG, HL, HP⟩ := hrel
        obtain ⟨n, rfl⟩ : ∃ m, n = m + 1 := ⟨n - 1, by omega⟩
        go_wp2_with fail
        refine (opt_rd HR.out comma).mono ?_
        rintro e w4 ⟨hg, ⟨hw, rfl, hr⟩ | ⟨hw, rfl, hr⟩⟩
        · have htl : us'.tail.length < us'.length := isW_pos hw
          have HW := Lib.hid hw
          have HR4 := Lib.hid hr
          have HG4 := Lib.hid (World.grownBy.trans HG.out hg)
          have HL4 := Lib.hid (HL.out.kept hg hR)
          clear hw hr hg HR HG HL
          go_wp2_with fail
          refine (oper_rd HR4.out).mono ?_
          rintro e w5 ⟨hg, ⟨y, us2, v, hp, rfl, ⟨cs2, rfl, hc⟩, hr, hle⟩ | ⟨er, at_, hp, rfl⟩⟩
          · obtain ⟨q0, q1, q2, q3, rfl, hone, hfl⟩ := one_Oper hc
            have hs4 : W.heap.size ≤ w4.heap.size := HG4.out.size
            have HG5 := Lib.hid (World.grownBy.trans HG4.out hg)
            have HL5 := Lib.hid (HL4.out.kept hg hR)
            have HR5 := Lib.hid hr
            have HC := Lib.hid hc
            have HONE := Lib.hid hone
            have HP2 : Hid (listP fin operP ts = ((moreP fin operP n).bd fun l => Ps.ret ((acc ++ [y]) ++ l)) us2) := Lib.hid (by rw [HP.out, more_t HW.out hp])
            have HNE : Hid (∀ k, w4.heap.size ≤ k → (W.heap.size ≤ k ∧ (Value.slice A acc.length c).ownBlock ≠ some k)) := Lib.hid (fun k hk => ⟨by omega, fun e => by have := (HL4.out.new k e).2; omega⟩)
            have HGS := Lib.hid hg.size
            have HFL := Lib.hid hfl
            clear hg hp hc hr HG4 HL4 HR4 HW HP hone hfl
            go_wp2_with (first | (at_builtin; refine Rd.append_at (W := w5) (cs := [q0, q1, q2, q3]) (ok := fun k => W.heap.size ≤ k) (okp := fun k => w4.heap.size ≤ k) (l := acc.map Opr.d) rfl (.tmp 16) (.tmp 19) 55 (.agg #[.bool false, .int .i64 0, .string ⟨#[]⟩, .slice none 0 0]) 56 rfl Tryz.underlying55 info_Oper rfl (by decide) (by decide) rfl rfl HL5.out HC.out HFL.out (fun k hk => by have := HGS.out; omega) HNE.out HONE.out (by rw [List.length_map]; omega) ?_; intro u6 w6 h6 hg6 hat6; obtain ⟨A6, c6, rfl⟩ := h6.slice; have HL6 := Lib.hid h6; have HG6 := Lib.hid (grown_own HG5.out hg6 (fun k hk => (HL5.out.new k hk).1)); have HR6 := Lib.hid (HR5.out.grown hg6 (fun k hk => by have := (HL5.out.new k hk).1; omega)); clear h6 hg6 hat6 HL5 HG5 HR5))
            have hl6 : (acc.map Opr.d ++ [Opr.d y]).length = (acc ++ [y]).length := by simp
            go_roundg (us2.length + 1)
            case measure => omega
            case rel => exact ⟨us2, acc ++ [y], A6, c6, n, by simp, by omega, by omega, by simp; omega, HR6, HG6, Lib.hid (by have h := HL6.out; rw [hl6] at h; simpa using h), HP2⟩
          · go_wp2_with fail
            exact ⟨rfl, World.grownBy.trans HG4.out hg, .inr ⟨er, at_, (by rw [HP.out]; exact more_te HW.out hp), rfl⟩⟩
        · have HW := Lib.hid hw
          have HR4 := Lib.hid hr
          have HG4 := Lib.hid (World.grownBy.trans HG.out hg)
          have HL4 := Lib.hid (HL.out.kept hg hR)
          clear hw hr hg HR HG HL
          go_wp2_with fail
          refine (must_rd HR4.out fin).mono ?_
          rintro e w5 ⟨hg, ⟨⟨⟩, us2, v, hp, rfl, rfl, hr, hle⟩ | ⟨er, at_, hp, rfl⟩⟩
          · have HG5 := Lib.hid (World.grownBy.trans HG4.out hg)
            have HL5 := Lib.hid (HL4.out.kept hg hR)
            have HR5 := Lib.hid hr
            have HP2 : Hid (listP fin operP ts = .ok (acc, us2)) := Lib.hid (by rw [HP.out, more_f HW.out hp])
            clear hg hp hr HG4 HL4 HR4 HW HP
            go_wp2_with fail
            go_ret
            exact ⟨HG5.out, .inl ⟨acc, us2, _, HP2.out, rfl, HL5.out, HR5.out, by omega⟩⟩
          · go_wp2_with fail
            exact ⟨rfl, World.grownBy.trans HG4.out hg, .inr ⟨er, at_, (by rw [HP.out]; exact more_fe HW.out hp), rfl⟩⟩
    · go_wp2_with fail
      exact ⟨rfl, World.grownBy.trans HG.out hg, .inr ⟨er, at_, list_fe HW.out hp, rfl⟩⟩
end Go.Proofs.YtjoiflokekebkaaGreatDoor
end

section
/- Walks: operands in brackets, what is made. -/
namespace Go.Proofs.YtjoiflokekebkaaGreatDoor
open Go.RowKit

theorem Leads.rv_mk {W W' : World} {k : Int} {ops : List Opr} {u pu : Value} {pn n v : ByteArray} {pl : List ByteArray} (h : Rd W' (fun j => W.heap.size ≤ j) u (.row 53 4 (ops.map Opr.d))) (h2 : Rd W' (fun j => W.heap.size ≤ j) pu (.row 104 1 (pl.map stepD))) :
    Leads W Rvl.d W' (.agg #[.int .i64 k, u, .string pn, pu, .string n, .string v]) ⟨k, ops, ⟨pn, pl⟩, n, v⟩ :=
  ⟨[.int .i64 k, u, .string pn, pu, .string n, .string v], rfl, ⟨.v _, h, .v _, h2, .v _, .v _, trivial⟩⟩
theorem Leads.rv {W W' : World} {v : Value} {x : Rvl} (h : Leads W Rvl.d W' v x) : ∃ k ops pn pl n vr A c A2 c2, x = ⟨k, ops, ⟨pn, pl⟩, n, vr⟩ ∧ v = .agg #[.int .i64 k, .slice A ops.length c, .string pn, .slice A2 pl.length c2, .string n, .string vr] ∧
    Rd W' (fun j => W.heap.size ≤ j) (.slice A ops.length c) (.row 53 4 (ops.map Opr.d)) ∧ Rd W' (fun j => W.heap.size ≤ j) (.slice A2 pl.length c2) (.row 104 1 (pl.map stepD)) := by
  obtain ⟨cs, rfl, hc⟩ := h
  obtain ⟨k, ops, ⟨pn, pl⟩, n, vr⟩ := x
  match cs, hc with
  | [a0, a1, a2, a3, a4, a5], hc =>
    obtain ⟨h1, h2, h3, h4, h5, h6, _⟩ := hc
    obtain rfl := h1.v_eq
    obtain rfl := h3.v_eq
    obtain rfl := h5.v_eq
    obtain rfl := h6.v_eq
    obtain ⟨A, c, rfl⟩ := h2.slice
    obtain ⟨A2, c2, rfl⟩ := h4.slice
    rw [List.length_map] at h2 h4 ⊢
    rw [List.length_map]
    exact ⟨k, ops, pn, pl, n, vr, A, c, A2, c2, rfl, rfl, h2, h4⟩
theorem opr_rds {w : World} {ok : Nat → Prop} {b : Bool} {n : Int} {m : ByteArray} {l : List ByteArray} {u : Value} (h : Rd w ok u (.row 104 1 (l.map stepD))) : Rds w ok [.bool b, .int .i64 n, .string m, u] (Opr.d ⟨b, n, ⟨m, l⟩⟩) := ⟨.v _, .v _, .v _, h, trivial⟩

set_option maxRecDepth 100000 in
set_option maxHeartbeats 2000000 in
theorem args_rd {W : World} {R : Nat} {ts : List Tk} (h : Rdr W R ts) : Calls Tryz.prog 232 #[.pointer (some ⟨R, 0, none⟩)] W fun e W' => Does (argsP) (fun W' v l => Rd W' (fun k => W.heap.size ≤ k) v (.row 53 4 (l.map Opr.d))) W R ts e W' := by
  have hR := h.lt
  have hlen := h.ok.len
  have HR := Lib.hid h
  have HG := Lib.hid (World.grownBy.refl W (some R))
  have hmf := mf
  clear h
  go_enter Tryz.func232, Tryz.ntmps232
  go_wp2_with fail
  refine (must_rd HR.out ⟨#[40]⟩).mono ?_
  rintro e w1 ⟨hg, ⟨⟨⟩, us, v, hp, rfl, rfl, hr, hle⟩ | ⟨er, at_, hp, rfl⟩⟩
  · skip
    have HP1 := Lib.hid hp
    have HLE1 := Lib.hid hle
    clear hp hle
    have HG_ := Lib.hid (World.grownBy.trans HG.out hg)
    have HR_ := Lib.hid hr
    clear hg hr HG HR
    have HG := HG_
    have HR := HR_
    clear HG_ HR_
    go_wp2_with fail
    have hs0 : W.heap.size ≤ w1.heap.size := HG.out.size
    refine (list_Oper HR.out ⟨#[41]⟩).mono ?_
    rintro e w2 ⟨hg, ⟨l, us2, v, hp, rfl, hv, hr, hle⟩ | ⟨er, at_, hp, rfl⟩⟩
    · skip
      have HV := Lib.hid (hv.low hs0)
      clear hv
      have HP2 := Lib.hid hp
      have HLE2 := Lib.hid hle
      clear hp hle
      have HG_ := Lib.hid (World.grownBy.trans HG.out hg)
      have HR_ := Lib.hid hr
      clear hg hr HG HR
      have HG := HG_
      have HR := HR_
      clear HG_ HR_
      have HPF : Hid (argsP ts = .ok (l, us2)) := Lib.hid (by rw [argsP, Ps.bd_ok HP1.out]; exact HP2.out)
      go_wp2_with fail
      go_ret
      exact ⟨HG.out, .inl ⟨l, us2, _, HPF.out, rfl, HV.out, HR.out, by have := HLE1.out; have := HLE2.out; omega⟩⟩
    · go_wp2_with fail
      exact ⟨rfl, World.grownBy.trans HG.out hg, .inr ⟨er, at_, (by rw [argsP, Ps.bd_ok HP1.out]; exact hp), rfl⟩⟩
  · go_wp2_with fail
    exact ⟨rfl, World.grownBy.trans HG.out hg, .inr ⟨er, at_, (by rw [argsP]; exact Ps.bd_err hp), rfl⟩⟩
set_option maxRecDepth 100000 in
set_option maxHeartbeats 2000000 in
theorem made_rd {W : World} {R : Nat} {ts : List Tk} (h : Rdr W R ts) : Calls Tryz.prog 233 #[.pointer (some ⟨R, 0, none⟩)] W fun e W' => Does (madeP) (Leads W Rvl.d) W R ts e W' := by
  have hR := h.lt
  have hlen := h.ok.len
  have HR := Lib.hid (h.below ((Below.refl (R + 1) W).alloc (by omega) (.cells #[.int .i64 0, .slice none 0 0, .string ⟨#[]⟩, .slice none 0 0, .string ⟨#[]⟩, .string ⟨#[]⟩] 57)) (by omega))
  have HG := Lib.hid (grown_alloc (World.grownBy.refl W (some R)) (.cells #[.int .i64 0, .slice none 0 0, .string ⟨#[]⟩, .slice none 0 0, .string ⟨#[]⟩, .string ⟨#[]⟩] 57))
  have HX := Lib.hid (.newAt rfl : Bx 57 (W.alloc (.cells #[.int .i64 0, .slice none 0 0, .string ⟨#[]⟩, .slice none 0 0, .string ⟨#[]⟩, .string ⟨#[]⟩] 57)) W.heap.size #[.int .i64 0, .slice none 0 0, .string ⟨#[]⟩, .slice none 0 0, .string ⟨#[]⟩, .string ⟨#[]⟩])
  clear h
  go_enter Tryz.func233, Tryz.ntmps233
  go_wp2_with fail
  generalize (W.alloc (.cells #[.int .i64 0, .slice none 0 0, .string ⟨#[]⟩, .slice none 0 0, .string ⟨#[]⟩, .string ⟨#[]⟩] 57)) = w3 at *
  refine (name_rd HR.out true).mono ?_
  rintro e w4 ⟨hg, ⟨n, us, v, hp, rfl, rfl, hr, hle⟩ | ⟨er, at_, hp, rfl⟩⟩
  · skip
    have HP1 := Lib.hid hp
    have HLE1 := Lib.hid hle
    clear hp hle
    have HG_ := Lib.hid (World.grownBy.trans HG.out hg)
    have HR_ := Lib.hid hr
    have HX_ := Lib.hid (HX.out.kept hg (by omega))
    clear hg hr HG HR HX
    have HG := HG_
    have HR := HR_
    have HX := HX_
    clear HG_ HR_ HX_
    have hlm : W.heap.size < w4.heap.size := blk_lt HX.out
    have HG_ := Lib.hid (grown_alloc HG.out (.cells #[.int .i64 10, .slice none 0 0, .string ⟨#[]⟩, .slice none 0 0, .string n, .string ⟨#[]⟩] 57))
    have HR_ := Lib.hid (HR.out.below (bel_one HR.out.lt (.cells #[.int .i64 10, .slice none 0 0, .string ⟨#[]⟩, .slice none 0 0, .string n, .string ⟨#[]⟩] 57)) (by omega))
    have HX_ := Lib.hid (HX.out.alloc (.cells #[.int .i64 10, .slice none 0 0, .string ⟨#[]⟩, .slice none 0 0, .string n, .string ⟨#[]⟩] 57))
    have HY_ : Hid (Bx 57 (w4.alloc (.cells #[.int .i64 10, .slice none 0 0, .string ⟨#[]⟩, .slice none 0 0, .string n, .string ⟨#[]⟩] 57)) w4.heap.size #[.int .i64 10, .slice none 0 0, .string ⟨#[]⟩, .slice none 0 0, .string n, .string ⟨#[]⟩]) := Lib.hid (.newAt rfl)
    clear HG HR HX
    have HG := HG_
    have HR := HR_
    have HX := HX_
    clear HG_ HR_ HX_
    have HY := HY_
    clear HY_
    go_wp2_with fail
    generalize w4.alloc (.cells #[.int .i64 10, .slice none 0 0, .string ⟨#[]⟩, .slice none 0 0, .string n, .string ⟨#[]⟩] 57) = w5 at *
    generalize w4.heap.size = m at *
    refine (opt_rd HR.out ⟨#[58, 58]⟩).mono ?_
    rintro e w6 ⟨hg, ⟨hw, rfl, hr⟩ | ⟨hw, rfl, hr⟩⟩
    · skip
      have HW2 := Lib.hid hw
      have HLT2 := Lib.hid (isW_pos hw)
      clear hw
      have HG_ := Lib.hid (World.grownBy.trans HG.out hg)
      have HR_ := Lib.hid hr
      have HX_ := Lib.hid (HX.out.kept hg (by omega))
      have HY_ := Lib.hid (HY.out.kept hg (by omega))
      clear hg hr HG HR HX HY
      have HG := HG_
      have HR := HR_
      have HX := HX_
      have HY := HY_
      clear HG_ HR_ HX_ HY_
      go_wp2_with fail
      refine (name_rd HR.out true).mono ?_
      rintro e w7 ⟨hg, ⟨vr, us2, v, hp, rfl, rfl, hr, hle⟩ | ⟨er, at_, hp, rfl⟩⟩
      · skip
        have HP3 := Lib.hid hp
        have HLE3 := Lib.hid hle
        clear hp hle
        have HG_ := Lib.hid (World.grownBy.trans HG.out hg)
        have HR_ := Lib.hid hr
        have HX_ := Lib.hid (HX.out.kept hg (by omega))
        have HY_ := Lib.hid (HY.out.kept hg (by omega))
        clear hg hr HG HR HX HY
        have HG := HG_
        have HR := HR_
        have HX := HX_
        have HY := HY_
        clear HG_ HR_ HX_ HY_
        obtain ⟨lHX, cHX, fHX⟩ := HX.out.see
        obtain ⟨lHY, cHY, fHY⟩ := HY.out.see
        have hne01 : (W.heap.size = m) = False := eq_false (by omega)
        have hne10 : (m = W.heap.size) = False := eq_false (by omega)
        have HPUT := Lib.hid (Put.set (Put.set (Put.refl W.heap.size (m + 1) w7) (p := ⟨m, 0, none⟩) (by simp only; omega) (by simp only; omega) (.int .i64 11)) (p := ⟨m, 5, none⟩) (by simp only; omega) (by simp only; omega) (.string vr))
        have HG_ := Lib.hid (HPUT.out.grown HG.out (Nat.le_refl _))
        have HR_ := Lib.hid (HR.out.put HPUT.out hR)
        have HX_ := Lib.hid ((HX.out.far (p := ⟨m, 0, none⟩) (by simp only; omega) (.int .i64 11)).far (p := ⟨m, 5, none⟩) (by simp only; omega) (.string vr))
        have HY_ : Hid (Bx 57 ((w7.setCell ⟨m, 0, none⟩ (.int .i64 11)).setCell ⟨m, 5, none⟩ (.string vr)) m #[.int .i64 11, .slice none 0 0, .string ⟨#[]⟩, .slice none 0 0, .string n, .string vr]) := Lib.hid (by have h := ((HY.out.set 0 (.int .i64 11)).set 5 (.string vr)); simpa using h)
        clear HPUT HG HR HX HY
        have HG := HG_
        have HR := HR_
        have HX := HX_
        have HY := HY_
        clear HG_ HR_ HX_ HY_
        go_wp2_with fail
        clear lHX cHX fHX lHY cHY fHY hne01 hne10
        generalize ((w7.setCell ⟨m, 0, none⟩ (.int .i64 11)).setCell ⟨m, 5, none⟩ (.string vr)) = w8 at *
        refine (opt_rd HR.out ⟨#[40]⟩).mono ?_
        rintro e w9 ⟨hg, ⟨hw, rfl, hr⟩ | ⟨hw, rfl, hr⟩⟩
        · skip
          have HW4 := Lib.hid hw
          have HLT4 := Lib.hid (isW_pos hw)
          clear hw
          have HG_ := Lib.hid (World.grownBy.trans HG.out hg)
          have HR_ := Lib.hid hr
          have HX_ := Lib.hid (HX.out.kept hg (by omega))
          have HY_ := Lib.hid (HY.out.kept hg (by omega))
          clear hg hr HG HR HX HY
          have HG := HG_
          have HR := HR_
          have HX := HX_
          have HY := HY_
          clear HG_ HR_ HX_ HY_
          go_wp2_with fail
          refine (oper_rd HR.out).mono ?_
          rintro e w10 ⟨hg, ⟨o, us3, v, hp, rfl, hv, hr, hle⟩ | ⟨er, at_, hp, rfl⟩⟩
          · skip
            obtain ⟨ob, on, om, ol, A, c, rfl, rfl, hl⟩ := hv.opr
            have hm3 := blk_lt HY.out
            have HL := Lib.hid (hl.low (m := m + 1) (by omega))
            clear hl hv hm3
            have HP5 := Lib.hid hp
            have HLE5 := Lib.hid hle
            clear hp hle
            have HG_ := Lib.hid (World.grownBy.trans HG.out hg)
            have HR_ := Lib.hid hr
            have HX_ := Lib.hid (HX.out.kept hg (by omega))
            have HY_ := Lib.hid (HY.out.kept hg (by omega))
            clear hg hr HG HR HX HY
            have HG := HG_
            have HR := HR_
            have HX := HX_
            have HY := HY_
            clear HG_ HR_ HX_ HY_
            obtain ⟨lHX, cHX, fHX⟩ := HX.out.see
            obtain ⟨lHY, cHY, fHY⟩ := HY.out.see
            have hne01 : (W.heap.size = m) = False := eq_false (by omega)
            have hne10 : (m = W.heap.size) = False := eq_false (by omega)
            have HPUT := Lib.hid (Put.set (Put.refl W.heap.size (m + 1) w10) (p := ⟨m, 1, none⟩) (by simp only; omega) (by simp only; omega) (.slice (some ⟨w10.heap.size, 0, none⟩) 1 1))
            have hsz0 : m < w10.heap.size := blk_lt HY.out
            have HO_ : Hid (Rd ((w10.setCell ⟨m, 1, none⟩ (.slice (some ⟨w10.heap.size, 0, none⟩) 1 1)).alloc (.cells #[.bool ob, .int .i64 on, .string om, .slice A ol.length c] 53)) (fun j => m + 1 ≤ j) (.slice (some ⟨w10.heap.size, 0, none⟩) 1 1) (.row 53 4 [Opr.d ⟨ob, on, ⟨om, ol⟩⟩])) := Lib.hid (by have h := Rd.lit (ok := fun j => m + 1 ≤ j) (w10.setCell ⟨m, 1, none⟩ (.slice (some ⟨w10.heap.size, 0, none⟩) 1 1)) (e := 53) (sz := 4) (cs := [.bool ob, .int .i64 on, .string om, .slice A ol.length c]) (ds := Opr.d ⟨ob, on, ⟨om, ol⟩⟩) (okp := fun j => m + 1 ≤ j) ((opr_rds (b := ob) (n := on) (m := om) HL.out).far (fun k hk => by simp only; omega) _) rfl (fun j hj => by rw [World.size_setCell] at hj; omega) (fun j hj => hj); rw [World.size_setCell] at h; exact h)
            have HG_ := Lib.hid (grown_alloc (HPUT.out.grown HG.out (Nat.le_refl _)) (.cells #[.bool ob, .int .i64 on, .string om, .slice A ol.length c] 53))
            have HR_ := Lib.hid ((HR.out.put HPUT.out hR).below (bel_one (HR.out.put HPUT.out hR).lt (.cells #[.bool ob, .int .i64 on, .string om, .slice A ol.length c] 53)) (by omega))
            have HX_ := Lib.hid ((HX.out.far (p := ⟨m, 1, none⟩) (by simp only; omega) (.slice (some ⟨w10.heap.size, 0, none⟩) 1 1)).alloc (.cells #[.bool ob, .int .i64 on, .string om, .slice A ol.length c] 53))
            have HY_ : Hid (Bx 57 ((w10.setCell ⟨m, 1, none⟩ (.slice (some ⟨w10.heap.size, 0, none⟩) 1 1)).alloc (.cells #[.bool ob, .int .i64 on, .string om, .slice A ol.length c] 53)) m #[.int .i64 11, .slice (some ⟨w10.heap.size, 0, none⟩) 1 1, .string ⟨#[]⟩, .slice none 0 0, .string n, .string vr]) := Lib.hid (by have h := (HY.out.set 1 (.slice (some ⟨w10.heap.size, 0, none⟩) 1 1)).alloc (.cells #[.bool ob, .int .i64 on, .string om, .slice A ol.length c] 53); simpa using h)
            have HL_ := Lib.hid ((HL.out.put HPUT.out (by omega)).bel ((Below.refl _ _).alloc (Nat.le_refl _) (.cells #[.bool ob, .int .i64 on, .string om, .slice A ol.length c] 53)))
            clear HPUT hsz0 HG HR HX HY HL
            have HG := HG_
            have HR := HR_
            have HX := HX_
            have HY := HY_
            have HL := HL_
            clear HG_ HR_ HX_ HY_ HL_
            have HO := HO_
            clear HO_
            go_wp2_with fail
            clear lHX cHX fHX lHY cHY fHY hne01 hne10
            generalize ((w10.setCell ⟨m, 1, none⟩ (.slice (some ⟨w10.heap.size, 0, none⟩) 1 1)).alloc (.cells #[.bool ob, .int .i64 on, .string om, .slice A ol.length c] 53)) = w11 at *
            generalize w10.heap.size = z1 at *
            refine (must_rd HR.out ⟨#[41]⟩).mono ?_
            rintro e w12 ⟨hg, ⟨⟨⟩, us4, v, hp, rfl, rfl, hr, hle⟩ | ⟨er, at_, hp, rfl⟩⟩
            · skip
              have HP6 := Lib.hid hp
              have HLE6 := Lib.hid hle
              clear hp hle
              have HG_ := Lib.hid (World.grownBy.trans HG.out hg)
              have HR_ := Lib.hid hr
              have HX_ := Lib.hid (HX.out.kept hg (by omega))
              have HY_ := Lib.hid (HY.out.kept hg (by omega))
              have HL_ := Lib.hid (HL.out.kept hg (by omega))
              have HO_ := Lib.hid (HO.out.kept hg (by omega))
              clear hg hr HG HR HX HY HL HO
              have HG := HG_
              have HR := HR_
              have HX := HX_
              have HY := HY_
              have HL := HL_
              have HO := HO_
              clear HG_ HR_ HX_ HY_ HL_ HO_
              have HPF : Hid ((madeP) ts = .ok (⟨11, [⟨ob, on, ⟨om, ol⟩⟩], ⟨noB, []⟩, n, vr⟩, us4)) := Lib.hid (by rw [madeP, Ps.bd_ok HP1.out, optE_t HW2.out, Ps.bd_ok HP3.out, optE_t HW4.out, Ps.bd_ok HP5.out, Ps.bd_ok HP6.out]; exact rfl)
              have HPUT : ∀ w', Put W.heap.size (m + 1) w12 w' → Does (madeP) (Leads W Rvl.d) W R ts (.returned (.agg #[.int .i64 11, .slice (some ⟨z1, 0, none⟩) 1 1, .string ⟨#[]⟩, .slice none 0 0, .string n, .string vr])) w' := fun w' hput => ⟨hput.grown HG.out (Nat.le_refl _), .inl ⟨⟨11, [⟨ob, on, ⟨om, ol⟩⟩], ⟨noB, []⟩, n, vr⟩, us4, _, HPF.out, rfl, Leads.rv_mk ((HO.out.put hput (Nat.le_refl _)).low (by omega)) (by exact Rd.nil _ _ _ _), HR.out.put hput hR, by have := HLE1.out; have := HLT2.out; have := HLE3.out; have := HLT4.out; have := HLE5.out; have := HLE6.out; first | omega | (simp at *; done) | (simp at *; omega)⟩⟩
              obtain ⟨lHX, cHX, fHX⟩ := HX.out.see
              obtain ⟨lHY, cHY, fHY⟩ := HY.out.see
              have hne01 : (W.heap.size = m) = False := eq_false (by omega)
              have hne10 : (m = W.heap.size) = False := eq_false (by omega)
              go_wp2_with fail
              refine bodyPost_ret (v := .agg #[.int .i64 11, .slice (some ⟨z1, 0, none⟩) 1 1, .string ⟨#[]⟩, .slice none 0 0, .string n, .string vr]) (by (simp only [results, Tryz.results233]); go_simp) rfl (HPUT _ ?_)
              repeat (first | with_reducible exact Put.refl _ _ _ | (with_reducible refine Put.set ?_ ?_ ?_ _; rotate_left; (simp only; omega); (simp only; omega)))
            · go_wp2_with fail
              exact ⟨rfl, World.grownBy.trans HG.out hg, .inr ⟨er, at_, (by rw [madeP, Ps.bd_ok HP1.out, optE_t HW2.out, Ps.bd_ok HP3.out, optE_t HW4.out, Ps.bd_ok HP5.out]; exact Ps.bd_err hp), rfl⟩⟩
          · go_wp2_with fail
            exact ⟨rfl, World.grownBy.trans HG.out hg, .inr ⟨er, at_, (by rw [madeP, Ps.bd_ok HP1.out, optE_t HW2.out, Ps.bd_ok HP3.out, optE_t HW4.out]; exact Ps.bd_err hp), rfl⟩⟩
        · skip
          have HW4 := Lib.hid hw
          clear hw
          have HG_ := Lib.hid (World.grownBy.trans HG.out hg)
          have HR_ := Lib.hid hr
          have HX_ := Lib.hid (HX.out.kept hg (by omega))
          have HY_ := Lib.hid (HY.out.kept hg (by omega))
          clear hg hr HG HR HX HY
          have HG := HG_
          have HR := HR_
          have HX := HX_
          have HY := HY_
          clear HG_ HR_ HX_ HY_
          have HPF : Hid ((madeP) ts = .ok (⟨11, [], ⟨noB, []⟩, n, vr⟩, us2)) := Lib.hid (by rw [madeP, Ps.bd_ok HP1.out, optE_t HW2.out, Ps.bd_ok HP3.out, optE_f HW4.out]; exact rfl)
          have HPUT : ∀ w', Put W.heap.size (m + 1) w9 w' → Does (madeP) (Leads W Rvl.d) W R ts (.returned (.agg #[.int .i64 11, .slice none 0 0, .string ⟨#[]⟩, .slice none 0 0, .string n, .string vr])) w' := fun w' hput => ⟨hput.grown HG.out (Nat.le_refl _), .inl ⟨⟨11, [], ⟨noB, []⟩, n, vr⟩, us2, _, HPF.out, rfl, Leads.rv_mk (by exact Rd.nil _ _ _ _) (by exact Rd.nil _ _ _ _), HR.out.put hput hR, by have := HLE1.out; have := HLT2.out; have := HLE3.out; first | omega | (simp at *; done) | (simp at *; omega)⟩⟩
          obtain ⟨lHX, cHX, fHX⟩ := HX.out.see
          obtain ⟨lHY, cHY, fHY⟩ := HY.out.see
          have hne01 : (W.heap.size = m) = False := eq_false (by omega)
          have hne10 : (m = W.heap.size) = False := eq_false (by omega)
          go_wp2_with fail
          refine bodyPost_ret (v := .agg #[.int .i64 11, .slice none 0 0, .string ⟨#[]⟩, .slice none 0 0, .string n, .string vr]) (by (simp only [results, Tryz.results233]); go_simp) rfl (HPUT _ ?_)
          repeat (first | with_reducible exact Put.refl _ _ _ | (with_reducible refine Put.set ?_ ?_ ?_ _; rotate_left; (simp only; omega); (simp only; omega)))
      · go_wp2_with fail
        exact ⟨rfl, World.grownBy.trans HG.out hg, .inr ⟨er, at_, (by rw [madeP, Ps.bd_ok HP1.out, optE_t HW2.out]; exact Ps.bd_err hp), rfl⟩⟩
    · skip
      have HW2 := Lib.hid hw
      clear hw
      have HG_ := Lib.hid (World.grownBy.trans HG.out hg)
      have HR_ := Lib.hid hr
      have HX_ := Lib.hid (HX.out.kept hg (by omega))
      have HY_ := Lib.hid (HY.out.kept hg (by omega))
      clear hg hr HG HR HX HY
      have HG := HG_
      have HR := HR_
      have HX := HX_
      have HY := HY_
      clear HG_ HR_ HX_ HY_
      go_wp2_with fail
      refine (args_rd HR.out).mono ?_
      rintro e w13 ⟨hg, ⟨l, us2, v, hp, rfl, hv, hr, hle⟩ | ⟨er, at_, hp, rfl⟩⟩
      · skip
        obtain ⟨A, c, rfl⟩ := hv.slice
        have hm3 := blk_lt HY.out
        have HL := Lib.hid (hv.low (m := m + 1) (by omega))
        clear hv hm3
        have HP7 := Lib.hid hp
        have HLE7 := Lib.hid hle
        clear hp hle
        have HG_ := Lib.hid (World.grownBy.trans HG.out hg)
        have HR_ := Lib.hid hr
        have HX_ := Lib.hid (HX.out.kept hg (by omega))
        have HY_ := Lib.hid (HY.out.kept hg (by omega))
        clear hg hr HG HR HX HY
        have HG := HG_
        have HR := HR_
        have HX := HX_
        have HY := HY_
        clear HG_ HR_ HX_ HY_
        have HPF : Hid ((madeP) ts = .ok (⟨10, l, ⟨noB, []⟩, n, noB⟩, us2)) := Lib.hid (by rw [madeP, Ps.bd_ok HP1.out, optE_f HW2.out, Ps.bd_ok HP7.out]; exact rfl)
        have HPUT : ∀ w', Put W.heap.size (m + 1) w13 w' → Does (madeP) (Leads W Rvl.d) W R ts (.returned (.agg #[.int .i64 10, .slice A (l.map Opr.d).length c, .string ⟨#[]⟩, .slice none 0 0, .string n, .string ⟨#[]⟩])) w' := fun w' hput => ⟨hput.grown HG.out (Nat.le_refl _), .inl ⟨⟨10, l, ⟨noB, []⟩, n, noB⟩, us2, _, HPF.out, rfl, Leads.rv_mk ((HL.out.put hput (Nat.le_refl _)).low (by omega)) (by exact Rd.nil _ _ _ _), HR.out.put hput hR, by have := HLE1.out; have := HLE7.out; first | omega | (simp at *; done) | (simp at *; omega)⟩⟩
        obtain ⟨lHX, cHX, fHX⟩ := HX.out.see
        obtain ⟨lHY, cHY, fHY⟩ := HY.out.see
        have hne01 : (W.heap.size = m) = False := eq_false (by omega)
        have hne10 : (m = W.heap.size) = False := eq_false (by omega)
        go_wp2_with fail
        refine bodyPost_ret (v := .agg #[.int .i64 10, .slice A (l.map Opr.d).length c, .string ⟨#[]⟩, .slice none 0 0, .string n, .string ⟨#[]⟩]) (by (simp only [results, Tryz.results233]); go_simp) rfl (HPUT _ ?_)
        repeat (first | with_reducible exact Put.refl _ _ _ | (with_reducible refine Put.set ?_ ?_ ?_ _; rotate_left; (simp only; omega); (simp only; omega)))
      · go_wp2_with fail
        exact ⟨rfl, World.grownBy.trans HG.out hg, .inr ⟨er, at_, (by rw [madeP, Ps.bd_ok HP1.out, optE_f HW2.out]; exact Ps.bd_err hp), rfl⟩⟩
  · go_wp2_with fail
    exact ⟨rfl, World.grownBy.trans HG.out hg, .inr ⟨er, at_, (by rw [madeP]; exact Ps.bd_err hp), rfl⟩⟩
end Go.Proofs.YtjoiflokekebkaaGreatDoor
end

section
/- Walks: the sign between two operands. -/
namespace Go.Proofs.YtjoiflokekebkaaGreatDoor
open Go.RowKit

def sg (k : Nat) : ByteArray := ([⟨#[43]⟩, ⟨#[45]⟩, ⟨#[42]⟩, ⟨#[60]⟩, ⟨#[61, 61]⟩] : List ByteArray).getD k noB
theorem sg_0 (w : World) : (Instr.index 278 (.agg #[.string ⟨#[43]⟩, .string ⟨#[45]⟩, .string ⟨#[42]⟩, .string ⟨#[60]⟩, .string ⟨#[61, 61]⟩]) (.int .i64 0)).run Tryz.prog w = .ok (.string ⟨#[43]⟩) w := by kernel_rfl
theorem sg_1 (w : World) : (Instr.index 278 (.agg #[.string ⟨#[43]⟩, .string ⟨#[45]⟩, .string ⟨#[42]⟩, .string ⟨#[60]⟩, .string ⟨#[61, 61]⟩]) (.int .i64 1)).run Tryz.prog w = .ok (.string ⟨#[45]⟩) w := by kernel_rfl
theorem sg_2 (w : World) : (Instr.index 278 (.agg #[.string ⟨#[43]⟩, .string ⟨#[45]⟩, .string ⟨#[42]⟩, .string ⟨#[60]⟩, .string ⟨#[61, 61]⟩]) (.int .i64 2)).run Tryz.prog w = .ok (.string ⟨#[42]⟩) w := by kernel_rfl
theorem sg_3 (w : World) : (Instr.index 278 (.agg #[.string ⟨#[43]⟩, .string ⟨#[45]⟩, .string ⟨#[42]⟩, .string ⟨#[60]⟩, .string ⟨#[61, 61]⟩]) (.int .i64 3)).run Tryz.prog w = .ok (.string ⟨#[60]⟩) w := by kernel_rfl
theorem sg_4 (w : World) : (Instr.index 278 (.agg #[.string ⟨#[43]⟩, .string ⟨#[45]⟩, .string ⟨#[42]⟩, .string ⟨#[60]⟩, .string ⟨#[61, 61]⟩]) (.int .i64 4)).run Tryz.prog w = .ok (.string ⟨#[61, 61]⟩) w := by kernel_rfl
/-- A sign, or none. -/
def Sg (W : World) (R : Nat) (ts : List Tk) (e : Ending) (W' : World) : Prop :=
  W.grownBy W' (some R) ∧ ((∃ k, k < 5 ∧ (∀ j, j < k → isW (sg j) ts = false) ∧ isW (sg k) ts = true ∧ e = .returned (.tuple #[.int .i64 (1 + k), .bool true]) ∧ Rdr W' R ts.tail) ∨
    ((∀ j, j < 5 → isW (sg j) ts = false) ∧ e = .returned (.tuple #[.int .i64 0, .bool false]) ∧ Rdr W' R ts))
def sgP (a : Opr) : Ps Rvl := optE (⟨#[43]⟩ : ByteArray) (signE a 1) <| optE (⟨#[45]⟩ : ByteArray) (signE a 2) <| optE (⟨#[42]⟩ : ByteArray) (signE a 3) <| optE (⟨#[60]⟩ : ByteArray) (signE a 4) <| optE (⟨#[61, 61]⟩ : ByteArray) (signE a 5) (.ret ⟨0, [a], .zero, noB, noB⟩)
theorem sgP_t {a : Opr} {ts : List Tk} {k : Nat} (hk : k < 5) (h0 : ∀ j, j < k → isW (sg j) ts = false) (h1 : isW (sg k) ts = true) : sgP a ts = signE a (1 + k) ts.tail := by
  unfold sgP
  match k, hk with
  | 0, _ => exact optE_t h1
  | 1, _ => exact (optE_f (h0 0 (by omega))).trans (optE_t h1)
  | 2, _ => exact (optE_f (h0 0 (by omega))).trans ((optE_f (h0 1 (by omega))).trans (optE_t h1))
  | 3, _ => exact (optE_f (h0 0 (by omega))).trans ((optE_f (h0 1 (by omega))).trans ((optE_f (h0 2 (by omega))).trans (optE_t h1)))
  | 4, _ => exact (optE_f (h0 0 (by omega))).trans ((optE_f (h0 1 (by omega))).trans ((optE_f (h0 2 (by omega))).trans ((optE_f (h0 3 (by omega))).trans (optE_t h1))))
theorem sgP_f {a : Opr} {ts : List Tk} (h0 : ∀ j, j < 5 → isW (sg j) ts = false) : sgP a ts = .ok (⟨0, [a], .zero, noB, noB⟩, ts) := by
  unfold sgP
  exact (optE_f (h0 0 (by omega))).trans ((optE_f (h0 1 (by omega))).trans ((optE_f (h0 2 (by omega))).trans ((optE_f (h0 3 (by omega))).trans (optE_f (h0 4 (by omega))))))
set_option maxRecDepth 100000 in
set_option maxHeartbeats 4000000 in
theorem sign_rd {W : World} {R : Nat} {ts : List Tk} (h : Rdr W R ts) : Calls Tryz.prog 234 #[.pointer (some ⟨R, 0, none⟩)] W fun e W' => Sg W R ts e W' := by
  have hR := h.lt
  have HR := Lib.hid h
  have HG := Lib.hid (World.grownBy.refl W (some R))
  have h0 := sg_0
  have h1 := sg_1
  have h2 := sg_2
  have h3 := sg_3
  have h4 := sg_4
  clear h
  go_enter Tryz.func234, Tryz.ntmps234
  go_wp2_with fail
  go_loopw [4, 5, 7] (fun _ _ u7 wr => ∃ t : Nat, t ≤ 5 ∧ u7 = .int .i64 t ∧ Hid (Rdr wr R ts) ∧ Hid (W.grownBy wr (some R)) ∧ Hid (∀ j, j < t → isW (sg j) ts = false)) (fun _ _ u _ => 6 - (intOf u).toNat)
  case atStart => exact ⟨0, by omega, rfl, HR, HG, Lib.hid (fun j hj => by omega)⟩
  case round =>
    clear HR HG
    obtain ⟨t, ht, rfl, HR, HG, HN⟩ := hrel
    match t, ht with
    | 0, _ =>
      go_wp2_with fail
      refine (opt_rd HR.out ⟨#[43]⟩).mono ?_
      rintro e w1 ⟨hg, ⟨hw, rfl, hr⟩ | ⟨hw, rfl, hr⟩⟩
      · have HW := Lib.hid hw
        have HG1 := Lib.hid (World.grownBy.trans HG.out hg)
        have HR1 := Lib.hid hr
        clear hw hg hr
        go_wp2_with fail
        exact bodyPost_ret (v := .tuple #[.int .i64 1, .bool true]) (by (simp only [results, Tryz.results234]); go_simp) rfl ⟨HG1.out, .inl ⟨0, by omega, HN.out, HW.out, rfl, HR1.out⟩⟩
      · have HN1 : Hid (∀ j, j < 1 → isW (sg j) ts = false) := Lib.hid (fun j hj => by
          by_cases e : j = 0
          · subst e; exact hw
          · exact HN.out j (by omega))
        have HG1 := Lib.hid (World.grownBy.trans HG.out hg)
        have HR1 := Lib.hid hr
        clear hw hg hr
        go_wp2_with fail
        go_roundw
        case rel => exact ⟨1, by omega, by first | rfl | go_num, HR1, HG1, HN1⟩
        case measure => simp [intOf]
    | 1, _ =>
      go_wp2_with fail
      refine (opt_rd HR.out ⟨#[45]⟩).mono ?_
      rintro e w1 ⟨hg, ⟨hw, rfl, hr⟩ | ⟨hw, rfl, hr⟩⟩
      · have HW := Lib.hid hw
        have HG1 := Lib.hid (World.grownBy.trans HG.out hg)
        have HR1 := Lib.hid hr
        clear hw hg hr
        go_wp2_with fail
        exact bodyPost_ret (v := .tuple #[.int .i64 2, .bool true]) (by (simp only [results, Tryz.results234]); go_simp) rfl ⟨HG1.out, .inl ⟨1, by omega, HN.out, HW.out, rfl, HR1.out⟩⟩
      · have HN1 : Hid (∀ j, j < 2 → isW (sg j) ts = false) := Lib.hid (fun j hj => by
          by_cases e : j = 1
          · subst e; exact hw
          · exact HN.out j (by omega))
        have HG1 := Lib.hid (World.grownBy.trans HG.out hg)
        have HR1 := Lib.hid hr
        clear hw hg hr
        go_wp2_with fail
        go_roundw
        case rel => exact ⟨2, by omega, by first | rfl | go_num, HR1, HG1, HN1⟩
        case measure => simp [intOf]
    | 2, _ =>
      go_wp2_with fail
      refine (opt_rd HR.out ⟨#[42]⟩).mono ?_
      rintro e w1 ⟨hg, ⟨hw, rfl, hr⟩ | ⟨hw, rfl, hr⟩⟩
      · have HW := Lib.hid hw
        have HG1 := Lib.hid (World.grownBy.trans HG.out hg)
        have HR1 := Lib.hid hr
        clear hw hg hr
        go_wp2_with fail
        exact bodyPost_ret (v := .tuple #[.int .i64 3, .bool true]) (by (simp only [results, Tryz.results234]); go_simp) rfl ⟨HG1.out, .inl ⟨2, by omega, HN.out, HW.out, rfl, HR1.out⟩⟩
      · have HN1 : Hid (∀ j, j < 3 → isW (sg j) ts = false) := Lib.hid (fun j hj => by
          by_cases e : j = 2
          · subst e; exact hw
          · exact HN.out j (by omega))
        have HG1 := Lib.hid (World.grownBy.trans HG.out hg)
        have HR1 := Lib.hid hr
        clear hw hg hr
        go_wp2_with fail
        go_roundw
        case rel => exact ⟨3, by omega, by first | rfl | go_num, HR1, HG1, HN1⟩
        case measure => simp [intOf]
    | 3, _ =>
      go_wp2_with fail
      refine (opt_rd HR.out ⟨#[60]⟩).mono ?_
      rintro e w1 ⟨hg, ⟨hw, rfl, hr⟩ | ⟨hw, rfl, hr⟩⟩
      · have HW := Lib.hid hw
        have HG1 := Lib.hid (World.grownBy.trans HG.out hg)
        have HR1 := Lib.hid hr
        clear hw hg hr
        go_wp2_with fail
        exact bodyPost_ret (v := .tuple #[.int .i64 4, .bool true]) (by (simp only [results, Tryz.results234]); go_simp) rfl ⟨HG1.out, .inl ⟨3, by omega, HN.out, HW.out, rfl, HR1.out⟩⟩
      · have HN1 : Hid (∀ j, j < 4 → isW (sg j) ts = false) := Lib.hid (fun j hj => by
          by_cases e : j = 3
          · subst e; exact hw
          · exact HN.out j (by omega))
        have HG1 := Lib.hid (World.grownBy.trans HG.out hg)
        have HR1 := Lib.hid hr
        clear hw hg hr
        go_wp2_with fail
        go_roundw
        case rel => exact ⟨4, by omega, by first | rfl | go_num, HR1, HG1, HN1⟩
        case measure => simp [intOf]
    | 4, _ =>
      go_wp2_with fail
      refine (opt_rd HR.out ⟨#[61, 61]⟩).mono ?_
      rintro e w1 ⟨hg, ⟨hw, rfl, hr⟩ | ⟨hw, rfl, hr⟩⟩
      · have HW := Lib.hid hw
        have HG1 := Lib.hid (World.grownBy.trans HG.out hg)
        have HR1 := Lib.hid hr
        clear hw hg hr
        go_wp2_with fail
        exact bodyPost_ret (v := .tuple #[.int .i64 5, .bool true]) (by (simp only [results, Tryz.results234]); go_simp) rfl ⟨HG1.out, .inl ⟨4, by omega, HN.out, HW.out, rfl, HR1.out⟩⟩
      · have HN1 : Hid (∀ j, j < 5 → isW (sg j) ts = false) := Lib.hid (fun j hj => by
          by_cases e : j = 4
          · subst e; exact hw
          · exact HN.out j (by omega))
        have HG1 := Lib.hid (World.grownBy.trans HG.out hg)
        have HR1 := Lib.hid hr
        clear hw hg hr
        go_wp2_with fail
        go_roundw
        case rel => exact ⟨5, by omega, by first | rfl | go_num, HR1, HG1, HN1⟩
        case measure => simp [intOf]
    | 5, _ =>
      go_wp2_with fail
      exact bodyPost_ret (v := .tuple #[.int .i64 0, .bool false]) (by (simp only [results, Tryz.results234]); go_simp) rfl ⟨HG.out, .inr ⟨HN.out, rfl, HR.out⟩⟩
end Go.Proofs.YtjoiflokekebkaaGreatDoor
end

section
/- Walks: regions that draw their order: a call that may stop, a row of trees that grows. -/
namespace Go.Proofs.YtjoiflokekebkaaGreatDoor
open Go.RowKit Go.Proofs.YtjoiflokekebkaaGreatDoorW.PrintLast

section
variable {P : Program} {ops : Array Oper} {Q : Exit → Act → World → Prop}
/-- A call of a Go function that hands back, or stops. -/
theorem goes2_ {oi : Oper} {N : Option Tmp} {a : Act} {w : World} {K : Act → World → Prop} {f : FuncId} {fn : Func} {ars : Array Operand} {ts : Array TypeId} (hf : P.funcs[f]? = some fn) (hname : (fn.name == "runtime.NumGoroutine") = false) (hb : fn.body.isSome = true) (args : Array Value)
    (hw : Region.wanted oi (yielded ops a.tmps) = true) (hN : oi.dst = N) (hop : oi.op = .call { callee := .value (.func f), args := ars, argTypes := ts }) (hargs : ars.map a.eval = args)
    (h : Calls P f args w fun e w' => (∃ v, e = .returned v ∧ K (a.put N v) w') ∨ (∃ c, e = .panicked c ∧ Q (.panic c) a w')) : if Region.wanted oi (yielded ops a.tmps) = true then Oper.wp P oi a w K Q else K (a.put N undef) w := by
  have he := enters_ hf hname hb args w
  have hrun : (execOp a.eval oi).run P w = .ok (.enter f args) w := by
    unfold execOp
    simp [hop, resolve, Deferred.ofValue, invoke, Act.eval, hargs, he]
  rw [if_pos hw]
  subst hN
  unfold Oper.wp
  rw [hrun, Oper.upon_enter]
  refine h.mono fun e w'' hh => ?_
  rcases hh with ⟨v, rfl, hk⟩ | ⟨c, rfl, hk⟩
  · exact hk
  · exact hk
end
section
variable {P : Program} {ops : Array Oper} {o : Oper} {a : Act} {Q' : Exit → Act → World → Prop} {Kc : Act → World → Prop}
theorem Rd.append_step {W : World} {ok okp : Nat → Prop} {e : TypeId} {sz : Nat} {u : Value} {l : List (List D)} {cs : List Value} {ds : List D} (hw : Region.wanted o (yielded ops a.tmps) = true) (s x : Operand) (t : TypeId) (z : Value) (bytes : Nat)
    (ho : o.op = .call { callee := .builtin .append, args := #[s, x], argTypes := #[t, t] })
    (ht : P.underlying t = some (.slice e)) (hinfo : (P.info? e).map (fun i => (i.zero, i.size, i.bytes)) = some (some z, sz, bytes)) (hz : z.cells.size = sz) (hs0 : 0 < sz) (hb0 : 0 < bytes)
    (hs : a.eval s = u) (hx : a.eval x = .slice (some ⟨W.heap.size, 0, none⟩) 1 1)
    (h : Rd W ok u (.row e sz l)) (hc : Rds W okp cs ds) (hds : ds.length = sz) (hfresh : ∀ k, W.heap.size ≤ k → ok k) (hokp : ∀ k, okp k → ok k ∧ u.ownBlock ≠ some k) (h1 : ∀ x ∈ cs, x.oneCell' = true)
    (hl : (l.length + 1) * bytes ≤ 140737488355328)
    (hk : ∀ u1 W1, Rd W1 ok u1 (.row e sz (l ++ [ds])) → W.grownBy W1 u.ownBlock → (u1.ownBlock = u.ownBlock ∨ ∃ b, u1.ownBlock = some b ∧ W.heap.size ≤ b) → Kc (a.put o.dst u1) W1) :
    if Region.wanted o (yielded ops a.tmps) = true then Oper.wp P o a (W.alloc (.cells cs.toArray e)) Kc Q' else Kc (a.put o.dst undef) (W.alloc (.cells cs.toArray e)) := by
  obtain ⟨u1, W1, hr, h2, h3, h4⟩ := Rd.run_append (P := P) t o.type z bytes ht hinfo hz hs0 hb0 h hc hds hfresh hokp h1 hl
  rw [if_pos hw]
  unfold Oper.wp execOp
  simp only [ho, resolve, invoke, builtin, Sem.run_bind, Sem.run_pure, Result.andThen_ok, List.map_toArray, List.map_cons, List.map_nil, hs, hx, hr]
  exact hk u1 W1 h2 h3 h4
end
theorem greatE_t {α : Type} {p q : Ps α} {ts : List Tk} (h : namedB true (hd ts) = true) : greatE p q ts = p ts := by rw [greatE, if_pos h]
theorem greatE_f {α : Type} {p q : Ps α} {ts : List Tk} (h : namedB true (hd ts) = false) : greatE p q ts = q ts := by rw [greatE, if_neg (by rw [h]; decide)]
end Go.Proofs.YtjoiflokekebkaaGreatDoor
end
