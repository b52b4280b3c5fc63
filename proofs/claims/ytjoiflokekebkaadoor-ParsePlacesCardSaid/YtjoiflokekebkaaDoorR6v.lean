/- Walks: a list of things with commas between. -/
import Derived.Test.YtjoiflokekebkaaDoorR5b
set_option linter.all false
namespace Go.Proofs.YtjoiflokekebkaaDoor
open Go.RowKit

theorem info_Variant : (Tryd.prog.info? 99).map (fun i => (i.zero, i.size, i.bytes)) = some (some (.agg #[.string ⟨#[]⟩, .int .i64 0, .string ⟨#[]⟩, .slice none 0 0]), 4, 64) := by kernel_rfl
theorem one_Variant {W : World} {ok : Nat → Prop} {cs : List Value} {x : _} (h : Rds W ok cs (Fld.d x)) : ∃ a b c d, cs = [a, b, c, d] ∧ (∀ c ∈ cs, c.oneCell' = true) ∧ (Fld.d x).length = 4 := by
  have hl := h.length
  obtain ⟨a, b, c, d, rfl, h1⟩ := four_Variant h
  exact ⟨a, b, c, d, rfl, h1, by rw [← hl]; rfl⟩
set_option maxRecDepth 100000 in
set_option maxHeartbeats 2000000 in
theorem list_Variant {W : World} {R : Nat} {ts : List Tk} (h : Rdr W R ts) (fin : ByteArray) :
    Calls Tryd.prog 35 #[.pointer (some ⟨R, 0, none⟩), .string fin, .func (.func 36) #[.pointer (some ⟨R, 0, none⟩)] #[]] W fun e W' =>
      Does (listP fin variantP) (fun W' v l => Rd W' (fun k => W.heap.size ≤ k) v (.row 99 4 (l.map Fld.d))) W R ts e W' := by
  have hR := h.lt
  have H := Lib.hid h
  have hts : ts.length ≤ 100000 := h.ok.len
  clear h
  go_enter Tryd.func35, Tryd.ntmps35
  go_wp2_with fail
  refine (opt_rd H.out fin).mono ?_
  rintro e w1 ⟨hg, ⟨hw, rfl, hr⟩ | ⟨hw, rfl, hr⟩⟩
  · have HG := Lib.hid hg
    have HR := Lib.hid hr
    have HW := Lib.hid hw
    clear hg hr hw
    go_wp2_with fail
    go_ret
    exact ⟨HG.out, .inl ⟨[], _, _, list_t HW.out, rfl, Rd.nil _ _ _ _, HR.out, by simp⟩⟩
  · have HG := Lib.hid hg
    have HR := Lib.hid hr
    have HW := Lib.hid hw
    clear hg hr hw
    go_wp2_with fail
    refine (variant_rd HR.out).mono ?_
    rintro e w2 ⟨hg, ⟨x, us, v, hp, rfl, ⟨cs, rfl, hc⟩, hr, hle⟩ | ⟨er, at_, hp, rfl⟩⟩
    · obtain ⟨q0, q1, q2, q3, rfl, hone, hfl⟩ := one_Variant hc
      have hs1 : W.heap.size ≤ w1.heap.size := HG.out.size
      have hlt := (Lt.variant ts x us hp).2
      have HG2 := Lib.hid (World.grownBy.trans HG.out hg)
      have HL0 : Hid (Rd (w2.alloc (.cells #[q0, q1, q2, q3] 99)) (fun k => W.heap.size ≤ k) (.slice (some ⟨w2.heap.size, 0, none⟩) 1 1) (.row 99 4 ([x].map Fld.d))) := Lib.hid (Rd.lit w2 hc hfl (fun k hk => by have := hg.size; omega) (fun k hk => by omega))
      have HG3 := Lib.hid (grown_alloc HG2.out (.cells #[q0, q1, q2, q3] 99))
      have HR3 := Lib.hid (hr.below (bel_one hr.lt (.cells #[q0, q1, q2, q3] 99)) (by omega))
      have HP : Hid (listP fin variantP ts = ((moreP fin variantP (us.length + 1)).bd fun l => Ps.ret ([x] ++ l)) us) := Lib.hid (list_f HW.out hp)
      have hus : us.length ≤ ts.length := hle
      clear hg hp hc hr hle hone hfl HG HR HW HG2
      go_wp2_with fail
      generalize w2.alloc (.cells #[q0, q1, q2, q3] 99) = w3 at *
      go_loopg [7] (us.length + 1) (fun gk u7 wr => ∃ (us' : List Tk) (acc : List _) (A : Option Addr) (c n : Nat), u7 = .slice A acc.length c ∧ us'.length < gk ∧ us'.length < n ∧ acc.length + us'.length ≤ ts.length ∧ Hid (Rdr wr R us') ∧ Hid (W.grownBy wr (some R)) ∧ Hid (Rd wr (fun k => W.heap.size ≤ k) (.slice A acc.length c) (.row 99 4 (acc.map Fld.d))) ∧ Hid (listP fin variantP ts = ((moreP fin variantP n).bd fun l => Ps.ret (acc ++ l)) us'))
      case atStart => exact ⟨us, [x], _, _, us.length + 1, rfl, by omega, by omega, by simp; omega, HR3, HG3, HL0, HP⟩
      case round =>
        clear HR3 HG3 HL0 HP hlt
        obtain ⟨us', acc, A, c, n, rfl, hgk, hn, hacc, HR, HG, HL, HP⟩ := hrel
        obtain ⟨n, rfl⟩ : ∃ m, n = m + 1 := ⟨n - 1, by omega⟩
        go_wp2_with fail
        refine (opt_rd HR.out comma).mono ?_
        rintro e w4 ⟨hg, ⟨hw, rfl, hr⟩ | ⟨hw, rfl, hr⟩⟩
        · have htl : us'.tail.length < us'.length := isW_pos hw
          have HW := Lib.hid hw
          have HR4 := Lib.hid hr
          have HG4 := Lib.hid (World.grownBy.trans HG.out hg)
          have HL4 := Lib.hid (HL.out.kept hg hR)
          clear hw hr hg HR HG HL
          go_wp2_with fail
          refine (variant_rd HR4.out).mono ?_
          rintro e w5 ⟨hg, ⟨y, us2, v, hp, rfl, ⟨cs2, rfl, hc⟩, hr, hle⟩ | ⟨er, at_, hp, rfl⟩⟩
          · obtain ⟨q0, q1, q2, q3, rfl, hone, hfl⟩ := one_Variant hc
            have hs4 : W.heap.size ≤ w4.heap.size := HG4.out.size
            have HG5 := Lib.hid (World.grownBy.trans HG4.out hg)
            have HL5 := Lib.hid (HL4.out.kept hg hR)
            have HR5 := Lib.hid hr
            have HC := Lib.hid hc
            have HONE := Lib.hid hone
            have HP2 : Hid (listP fin variantP ts = ((moreP fin variantP n).bd fun l => Ps.ret ((acc ++ [y]) ++ l)) us2) := Lib.hid (by rw [HP.out, more_t HW.out hp])
            have HNE : Hid (∀ k, w4.heap.size ≤ k → (W.heap.size ≤ k ∧ (Value.slice A acc.length c).ownBlock ≠ some k)) := Lib.hid (fun k hk => ⟨by omega, fun e => by have := (HL4.out.new k e).2; omega⟩)
            have HGS := Lib.hid hg.size
            have HFL := Lib.hid hfl
            clear hg hp hc hr HG4 HL4 HR4 HW HP hone hfl
            go_wp2_with (first | (at_builtin; refine Rd.append_at (W := w5) (cs := [q0, q1, q2, q3]) (ok := fun k => W.heap.size ≤ k) (okp := fun k => w4.heap.size ≤ k) (l := acc.map Fld.d) rfl (.tmp 16) (.tmp 19) 42 (.agg #[.string ⟨#[]⟩, .int .i64 0, .string ⟨#[]⟩, .slice none 0 0]) 64 rfl Tryd.underlying42 info_Variant rfl (by decide) (by decide) rfl rfl HL5.out HC.out HFL.out (fun k hk => by have := HGS.out; omega) HNE.out HONE.out (by rw [List.length_map]; omega) ?_; intro u6 w6 h6 hg6 hat6; obtain ⟨A6, c6, rfl⟩ := h6.slice; have HL6 := Lib.hid h6; have HG6 := Lib.hid (grown_own HG5.out hg6 (fun k hk => (HL5.out.new k hk).1)); have HR6 := Lib.hid (HR5.out.grown hg6 (fun k hk => by have := (HL5.out.new k hk).1; omega)); clear h6 hg6 hat6 HL5 HG5 HR5))
            have hl6 : (acc.map Fld.d ++ [Fld.d y]).length = (acc ++ [y]).length := by simp
            go_roundg (us2.length + 1)
            case measure => omega
            case rel => exact ⟨us2, acc ++ [y], A6, c6, n, by simp, by omega, by omega, by simp; omega, HR6, HG6, Lib.hid (by have h := HL6.out; rw [hl6] at h; simpa using h), HP2⟩
          · go_wp2_with fail
            exact ⟨rfl, World.grownBy.trans HG4.out hg, .inr ⟨er, at_, (by rw [HP.out]; exact more_te HW.out hp), rfl⟩⟩
        · have HW := Lib.hid hw
          have HR4 := Lib.hid hr
          have HG4 := Lib.hid (World.grownBy.trans HG.out hg)
          have HL4 := Lib.hid (HL.out.kept hg hR)
          clear hw hr hg HR HG HL
          go_wp2_with fail
          refine (must_rd HR4.out fin).mono ?_
          rintro e w5 ⟨hg, ⟨⟨⟩, us2, v, hp, rfl, rfl, hr, hle⟩ | ⟨er, at_, hp, rfl⟩⟩
          · have HG5 := Lib.hid (World.grownBy.trans HG4.out hg)
            have HL5 := Lib.hid (HL4.out.kept hg hR)
            have HR5 := Lib.hid hr
            have HP2 : Hid (listP fin variantP ts = .ok (acc, us2)) := Lib.hid (by rw [HP.out, more_f HW.out hp])
            clear hg hp hr HG4 HL4 HR4 HW HP
            go_wp2_with fail
            go_ret
            exact ⟨HG5.out, .inl ⟨acc, us2, _, HP2.out, rfl, HL5.out, HR5.out, by omega⟩⟩
          · go_wp2_with fail
            exact ⟨rfl, World.grownBy.trans HG4.out hg, .inr ⟨er, at_, (by rw [HP.out]; exact more_fe HW.out hp), rfl⟩⟩
    · go_wp2_with fail
      exact ⟨rfl, World.grownBy.trans HG.out hg, .inr ⟨er, at_, list_fe HW.out hp, rfl⟩⟩
end Go.Proofs.YtjoiflokekebkaaDoor
