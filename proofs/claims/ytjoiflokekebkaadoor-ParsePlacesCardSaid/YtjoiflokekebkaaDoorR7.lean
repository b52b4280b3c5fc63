/- Walks: a place. -/
import Derived.Test.YtjoiflokekebkaaDoorR5b
set_option linter.all false
namespace Go.Proofs.YtjoiflokekebkaaDoor
open Go.RowKit

section
variable {n : Nat} {acc : List ByteArray} {ts us : List Tk} {x y : ByteArray}
abbrev dotW : ByteArray := ⟨#[46]⟩
abbrev starW : ByteArray := ⟨#[42]⟩
theorem steps_s (h1 : isW dotW ts = true) (h2 : isW starW ts.tail = true) : ((stepsP (n + 1)).bd fun l => Ps.ret (⟨x, acc ++ l⟩ : Plc)) ts = ((stepsP n).bd fun l => Ps.ret (⟨x, (acc ++ [noB]) ++ l⟩ : Plc)) ts.tail.tail := by
  have h : stepsP (n + 1) ts = ((stepsP n).bd fun l => .ret (noB :: l)) ts.tail.tail := (optE_t h1).trans (optE_t h2)
  unfold Ps.bd at h ⊢
  rw [h]
  cases stepsP n ts.tail.tail with
  | error e => rfl
  | ok q => simp [Ps.ret]
theorem steps_n (h1 : isW dotW ts = true) (h2 : isW starW ts.tail = false) (h3 : name false ts.tail = .ok (y, us)) : ((stepsP (n + 1)).bd fun l => Ps.ret (⟨x, acc ++ l⟩ : Plc)) ts = ((stepsP n).bd fun l => Ps.ret (⟨x, (acc ++ [y]) ++ l⟩ : Plc)) us := by
  have h : stepsP (n + 1) ts = ((name false).bd fun x => (stepsP n).bd fun l => .ret (x :: l)) ts.tail := (optE_t h1).trans (optE_f h2)
  rw [Ps.bd_ok h3] at h
  unfold Ps.bd at h ⊢
  rw [h]
  cases stepsP n us with
  | error e => rfl
  | ok q => simp [Ps.ret]
theorem steps_e {e : Int × Int} (h1 : isW dotW ts = true) (h2 : isW starW ts.tail = false) (h3 : name false ts.tail = .error e) : ((stepsP (n + 1)).bd fun l => Ps.ret (⟨x, acc ++ l⟩ : Plc)) ts = .error e := by
  have h : stepsP (n + 1) ts = ((name false).bd fun x => (stepsP n).bd fun l => .ret (x :: l)) ts.tail := (optE_t h1).trans (optE_f h2)
  rw [Ps.bd_err h3] at h
  exact Ps.bd_err h
theorem steps_f (h1 : isW dotW ts = false) : ((stepsP (n + 1)).bd fun l => Ps.ret (⟨x, acc ++ l⟩ : Plc)) ts = .ok (⟨x, acc⟩, ts) := by
  have h : stepsP (n + 1) ts = .ok ([], ts) := optE_f h1
  rw [Ps.bd_ok h]
  simp [Ps.ret]
end
theorem info_Step : (Tryd.prog.info? 140).map (fun i => (i.zero, i.size, i.bytes)) = some (some (.agg #[.string ⟨#[]⟩]), 1, 16) := by kernel_rfl

set_option maxRecDepth 100000 in
set_option maxHeartbeats 2000000 in
theorem place_rd {W : World} {R : Nat} {ts : List Tk} (h : Rdr W R ts) : Calls Tryd.prog 66 #[.pointer (some ⟨R, 0, none⟩)] W fun e W' => Does (placeP) (Leads W Plc.d) W R ts e W' := by
  have hR := h.lt
  have hlen := h.ok.len
  have HR := Lib.hid (h.below ((Below.refl (R + 1) W).alloc (by omega) (.cells #[.string ⟨#[]⟩, .slice none 0 0] 56)) (by omega))
  have HG := Lib.hid (grown_alloc (World.grownBy.refl W (some R)) (.cells #[.string ⟨#[]⟩, .slice none 0 0] 56))
  have HX := Lib.hid (.newAt rfl : Bx 56 (W.alloc (.cells #[.string ⟨#[]⟩, .slice none 0 0] 56)) W.heap.size #[.string ⟨#[]⟩, .slice none 0 0])
  clear h
  go_enter Tryd.func66, Tryd.ntmps66
  go_wp2_with fail
  generalize (W.alloc (.cells #[.string ⟨#[]⟩, .slice none 0 0] 56)) = w1 at *
  refine (name_rd HR.out false).mono ?_
  rintro e w2 ⟨hg, ⟨x, us, v, hp, rfl, rfl, hr, hle⟩ | ⟨er, at_, hp, rfl⟩⟩
  · skip
    have HP1 := Lib.hid hp
    have HLE1 := Lib.hid hle
    clear hp hle
    have HG_ := Lib.hid (World.grownBy.trans HG.out hg)
    have HR_ := Lib.hid hr
    have HX_ := Lib.hid (HX.out.kept hg (by omega))
    clear hg hr HG HR HX
    have HG := HG_
    have HR := HR_
    have HX := HX_
    clear HG_ HR_ HX_
    have hlm : W.heap.size < w2.heap.size := blk_lt HX.out
    have HG_ := Lib.hid (grown_alloc HG.out (.cells #[.string x, .slice none 0 0] 56))
    have HR_ := Lib.hid (HR.out.below (bel_one HR.out.lt (.cells #[.string x, .slice none 0 0] 56)) (by omega))
    have HX_ := Lib.hid (HX.out.alloc (.cells #[.string x, .slice none 0 0] 56))
    have HY_ : Hid (Bx 56 (w2.alloc (.cells #[.string x, .slice none 0 0] 56)) w2.heap.size #[.string x, .slice none 0 0]) := Lib.hid (.newAt rfl)
    clear HG HR HX
    have HG := HG_
    have HR := HR_
    have HX := HX_
    clear HG_ HR_ HX_
    have HY := HY_
    clear HY_
    go_wp2_with fail
    generalize w2.alloc (.cells #[.string x, .slice none 0 0] 56) = w3 at *
    generalize w2.heap.size = m at *
    have HP : Hid (placeP ts = ((stepsP (us.length + 1)).bd fun l => Ps.ret (⟨x, [] ++ l⟩ : Plc)) us) := Lib.hid (by rw [placeP, Ps.bd_ok HP1.out]; rfl)
    have HL : Hid (Rd w3 (fun k => m < k) (.slice none 0 0) (.row 140 1 (([] : List ByteArray).map stepD))) := Lib.hid (Rd.nil _ _ _ _)
    have hus := HLE1.out
    clear HP1 HLE1
    go_loopg [] (us.length + 1) (fun gk wr => ∃ (us' : List Tk) (acc : List ByteArray) (A : Option Addr) (c n : Nat), us'.length < gk ∧ us'.length < n ∧ acc.length + us'.length ≤ ts.length ∧ m < wr.heap.size ∧ Hid (Rdr wr R us') ∧ Hid (W.grownBy wr (some R)) ∧ Hid (Bx 56 wr W.heap.size #[.string ⟨#[]⟩, .slice none 0 0]) ∧ Hid (Bx 56 wr m #[.string x, .slice A acc.length c]) ∧ Hid (Rd wr (fun k => m < k) (.slice A acc.length c) (.row 140 1 (acc.map stepD))) ∧ Hid (placeP ts = ((stepsP n).bd fun l => Ps.ret (⟨x, acc ++ l⟩ : Plc)) us'))
    case atStart => exact ⟨us, [], none, 0, us.length + 1, by omega, by omega, by simpa using hus, blk_lt HY.out, HR, HG, HX, HY, HL, HP⟩
    case round =>
      clear HR HG HX HY HL HP
      obtain ⟨us', acc, A, c, n, hgk, hn, hacc, hmw, HR, HG, HX, HY, HL, HP⟩ := hrel
      obtain ⟨n, rfl⟩ : ∃ j, n = j + 1 := ⟨n - 1, by omega⟩
      go_wp2_with fail
      refine (opt_rd HR.out dotW).mono ?_
      rintro e w20 ⟨hg, ⟨hw, rfl, hr⟩ | ⟨hw, rfl, hr⟩⟩
      · have htl : us'.tail.length < us'.length := isW_pos hw
        have HD := Lib.hid hw
        clear hw
        have HG_ := Lib.hid (World.grownBy.trans HG.out hg)
        have HR_ := Lib.hid hr
        have HX_ := Lib.hid (HX.out.kept hg (by omega))
        have HY_ := Lib.hid (HY.out.kept hg (by omega))
        have HL_ := Lib.hid (HL.out.grown hg (fun k hk e => by injection e; omega))
        have hmw := blk_lt HY_.out
        clear hg hr HG HR HX HY HL
        have HG := HG_
        have HR := HR_
        have HX := HX_
        have HY := HY_
        have HL := HL_
        clear HG_ HR_ HX_ HY_ HL_
        have HG_ := Lib.hid (grown_alloc HG.out (.cells #[.string ⟨#[]⟩] 140))
        have HR_ := Lib.hid (HR.out.below (bel_one HR.out.lt (.cells #[.string ⟨#[]⟩] 140)) (by omega))
        have hmw2 := hmw
        have HX_ := Lib.hid (HX.out.alloc (.cells #[.string ⟨#[]⟩] 140))
        have HY_ := Lib.hid (HY.out.alloc (.cells #[.string ⟨#[]⟩] 140))
        have HL_ : Hid (Rd (w20.alloc (.cells #[.string ⟨#[]⟩] 140)) (fun k => m < k ∧ k ≠ w20.heap.size) (.slice A acc.length c) (.row 140 1 (acc.map stepD))) := Lib.hid ((HL.out.bound.bel ((Below.refl _ _).alloc (Nat.le_refl _) (.cells #[.string ⟨#[]⟩] 140))).mono (fun k hk => ⟨hk.1, by have := hk.2; omega⟩))
        have HZ_ : Hid (Bx 140 (w20.alloc (.cells #[.string ⟨#[]⟩] 140)) w20.heap.size #[.string ⟨#[]⟩]) := Lib.hid (.newAt rfl)
        clear HG HR HX HY HL
        have HG := HG_
        have HR := HR_
        have HX := HX_
        have HY := HY_
        have HL := HL_
        clear HG_ HR_ HX_ HY_ HL_
        have HZ := HZ_
        clear HZ_
        go_wp2_with fail
        generalize w20.alloc (.cells #[.string ⟨#[]⟩] 140) = w21 at *
        generalize w20.heap.size = z at *
        have hmz := hmw
        refine (opt_rd HR.out starW).mono ?_
        rintro e w22 ⟨hg, ⟨hw, rfl, hr⟩ | ⟨hw, rfl, hr⟩⟩
        · have hts2 : us'.tail.tail.length < us'.tail.length := isW_pos hw
          have HST := Lib.hid hw
          clear hw
          have HG_ := Lib.hid (World.grownBy.trans HG.out hg)
          have HR_ := Lib.hid hr
          have HX_ := Lib.hid (HX.out.kept hg (by omega))
          have HY_ := Lib.hid (HY.out.kept hg (by omega))
          have HZ_ := Lib.hid (HZ.out.kept hg (by omega))
          have HL_ := Lib.hid (HL.out.grown hg (fun k hk e => by injection e; omega))
          have hmw := blk_lt HY_.out
          clear hg hr HG HR HX HY HZ HL
          have HG := HG_
          have HR := HR_
          have HX := HX_
          have HY := HY_
          have HZ := HZ_
          have HL := HL_
          clear HG_ HR_ HX_ HY_ HZ_ HL_
          obtain ⟨lx, cx, fx⟩ := HX.out.see
          obtain ⟨ly, cy, fy⟩ := HY.out.see
          obtain ⟨lz, cz, fz⟩ := HZ.out.see
          have hne1 : (m = z) = False := eq_false (by omega)
          have hne2 : (z = m) = False := eq_false (by omega)
          have hx9 := blk_lt HX.out
          have hy9 := blk_lt HY.out
          have hz9 := blk_lt HZ.out
          have hc : Rds w22 (fun _ => False) [.string noB] (stepD noB) := ⟨.v _, trivial⟩
          have HC := Lib.hid hc
          clear hc
          have HNW : Hid (∀ k, W.heap.size ≤ k ∨ k ≤ m → True) := Lib.hid (fun _ _ => trivial)
          go_wp2_with (first | (at_builtin; refine Rd.append_at (W := w22) (ok := fun k => m < k ∧ k ≠ z) (okp := fun _ => False) (l := acc.map stepD) (cs := [.string noB]) rfl (.tmp 17) (.tmp 19) 54 (.agg #[.string ⟨#[]⟩]) 16 rfl Tryd.underlying54 info_Step rfl (by decide) (by decide) rfl rfl HL.out HC.out rfl (fun k hk => by omega) (fun k hk => hk.elim) (by simp [Value.oneCell']) (by rw [List.length_map]; omega) ?_; intro u6 w6 h6 hg6 hat6; obtain ⟨A6, c6, rfl⟩ := h6.slice; have hrow : ∀ k, (Value.slice A acc.length c).ownBlock = some k → m < k := (fun k hk => by obtain ⟨xs, ho, h1⟩ := HL.out.owns; exact (h1 k hk).1); have HL6 := Lib.hid h6; have HG6 := Lib.hid (grown_own HG.out hg6 (fun k hk => by have := hrow k hk; omega)); have HR6 := Lib.hid (HR.out.grown hg6 (fun k hk => by have := hrow k hk; omega)); have HX6 : Hid (Bx 56 w6 W.heap.size #[.string ⟨#[]⟩, .slice none 0 0]) := Lib.hid ((hg6.block _ hx9 (fun e => by have := hrow _ e.symm; omega)).trans HX.out); have HY6 : Hid (Bx 56 w6 m #[.string x, .slice A acc.length c]) := Lib.hid ((hg6.block _ hy9 (fun e => by have := hrow _ e.symm; omega)).trans HY.out); have hs6 := hg6.size; clear h6 hg6 hat6 HL HG HR HX HY HZ lx cx fx ly cy fy lz cz fz; obtain ⟨lx, cx, fx⟩ := HX6.out.see; obtain ⟨ly, cy, fy⟩ := HY6.out.see))
          have hl6 : (acc.map stepD ++ [stepD noB]).length = (acc ++ [noB]).length := by simp
          go_roundg (us'.tail.tail.length + 1)
          case measure => omega
          case rel => exact ⟨us'.tail.tail, acc ++ [noB], A6, c6, n, by omega, by omega, by simp at *; omega, by rw [World.size_setCell]; exact ly, Lib.hid (HR6.out.far (by simp only; omega) _), Lib.hid (grown_set HG6.out (by simp only; omega) _), Lib.hid (HX6.out.far (by simp only; omega) _), Lib.hid (by have h := HY6.out.set 1 (.slice A6 (acc.length + 1) c6); simpa using h), Lib.hid (by have h := HL6.out.far (p := ⟨m, 1, none⟩) (fun k hk => by have := hk.1; simp only; omega) (.slice A6 (acc.length + 1) c6); exact (by simpa using h.mono (ok' := fun k => m < k) (fun k hk => hk.1))), Lib.hid (by rw [HP.out]; exact steps_s HD.out HST.out)⟩
        · have HST := Lib.hid hw
          clear hw
          have HG_ := Lib.hid (World.grownBy.trans HG.out hg)
          have HR_ := Lib.hid hr
          have HX_ := Lib.hid (HX.out.kept hg (by omega))
          have HY_ := Lib.hid (HY.out.kept hg (by omega))
          have HZ_ := Lib.hid (HZ.out.kept hg (by omega))
          have HL_ := Lib.hid (HL.out.grown hg (fun k hk e => by injection e; omega))
          have hmw := blk_lt HY_.out
          clear hg hr HG HR HX HY HZ HL
          have HG := HG_
          have HR := HR_
          have HX := HX_
          have HY := HY_
          have HZ := HZ_
          have HL := HL_
          clear HG_ HR_ HX_ HY_ HZ_ HL_
          obtain ⟨lz, cz, fz⟩ := HZ.out.see
          go_wp2_with fail
          clear lz cz fz
          refine (name_rd HR.out false).mono ?_
          rintro e w23 ⟨hg, ⟨y, us2, v, hp, rfl, rfl, hr, hle⟩ | ⟨er, at_, hp, rfl⟩⟩
          · have HP3 := Lib.hid hp
            clear hp
            have HG_ := Lib.hid (World.grownBy.trans HG.out hg)
            have HR_ := Lib.hid hr
            have HX_ := Lib.hid (HX.out.kept hg (by omega))
            have HY_ := Lib.hid (HY.out.kept hg (by omega))
            have HZ_ := Lib.hid (HZ.out.kept hg (by omega))
            have HL_ := Lib.hid (HL.out.grown hg (fun k hk e => by injection e; omega))
            have hmw := blk_lt HY_.out
            clear hg hr HG HR HX HY HZ HL
            have HG := HG_
            have HR := HR_
            have HX := HX_
            have HY := HY_
            have HZ := HZ_
            have HL := HL_
            clear HG_ HR_ HX_ HY_ HZ_ HL_
            obtain ⟨lx, cx, fx⟩ := HX.out.see
            obtain ⟨ly, cy, fy⟩ := HY.out.see
            obtain ⟨lz, cz, fz⟩ := HZ.out.see
            have hne1 : (m = z) = False := eq_false (by omega)
            have hne2 : (z = m) = False := eq_false (by omega)
            have HG_ := Lib.hid (grown_set HG.out (p := ⟨z, 0, none⟩) (by simp only; omega) (.string y))
            have HR_ := Lib.hid (HR.out.far (p := ⟨z, 0, none⟩) (by simp only; omega) (.string y))
            have HX_ := Lib.hid (HX.out.far (p := ⟨z, 0, none⟩) (by simp only; omega) (.string y))
            have HY_ := Lib.hid (HY.out.far (p := ⟨z, 0, none⟩) (by simp only; omega) (.string y))
            have HZ_ := Lib.hid (HZ.out.set 0 (.string y))
            have HL_ := Lib.hid (HL.out.far (p := ⟨z, 0, none⟩) (fun k hk => hk.2) (.string y))
            clear HG HR HX HY HZ HL
            have HG := HG_
            have HR := HR_
            have HX := HX_
            have HY := HY_
            have HZ := HZ_
            have HL := HL_
            clear HG_ HR_ HX_ HY_ HZ_ HL_
            have hmw : m < (w23.setCell ⟨z, 0, none⟩ (.string y)).heap.size := blk_lt HY.out
            have hzw : z < (w23.setCell ⟨z, 0, none⟩ (.string y)).heap.size := blk_lt HZ.out
            have hx9 := blk_lt HX.out
            have hy9 := blk_lt HY.out
            have hz9 := blk_lt HZ.out
            have hc : Rds (w23.setCell ⟨z, 0, none⟩ (.string y)) (fun _ => False) [.string y] (stepD y) := ⟨.v _, trivial⟩
            have HC := Lib.hid hc
            clear hc
            have HNW : Hid (∀ k, W.heap.size ≤ k ∨ k ≤ m → True) := Lib.hid (fun _ _ => trivial)
            go_wp2_with (first | (at_builtin; refine Rd.append_at (W := (w23.setCell ⟨z, 0, none⟩ (.string y))) (ok := fun k => m < k ∧ k ≠ z) (okp := fun _ => False) (l := acc.map stepD) (cs := [.string y]) rfl (.tmp 17) (.tmp 19) 54 (.agg #[.string ⟨#[]⟩]) 16 rfl Tryd.underlying54 info_Step rfl (by decide) (by decide) rfl (by rw [World.size_setCell]; rfl) HL.out HC.out rfl (fun k hk => by omega) (fun k hk => hk.elim) (by simp [Value.oneCell']) (by rw [List.length_map]; omega) ?_; intro u6 w6 h6 hg6 hat6; obtain ⟨A6, c6, rfl⟩ := h6.slice; have hrow : ∀ k, (Value.slice A acc.length c).ownBlock = some k → m < k := (fun k hk => by obtain ⟨xs, ho, h1⟩ := HL.out.owns; exact (h1 k hk).1); have HL6 := Lib.hid h6; have HG6 := Lib.hid (grown_own HG.out hg6 (fun k hk => by have := hrow k hk; omega)); have HR6 := Lib.hid (HR.out.grown hg6 (fun k hk => by have := hrow k hk; omega)); have HX6 : Hid (Bx 56 w6 W.heap.size #[.string ⟨#[]⟩, .slice none 0 0]) := Lib.hid ((hg6.block _ hx9 (fun e => by have := hrow _ e.symm; omega)).trans HX.out); have HY6 : Hid (Bx 56 w6 m #[.string x, .slice A acc.length c]) := Lib.hid ((hg6.block _ hy9 (fun e => by have := hrow _ e.symm; omega)).trans HY.out); have hs6 := hg6.size; clear h6 hg6 hat6 HL HG HR HX HY HZ lx cx fx ly cy fy lz cz fz; obtain ⟨lx, cx, fx⟩ := HX6.out.see; obtain ⟨ly, cy, fy⟩ := HY6.out.see))
            have hl6 : (acc.map stepD ++ [stepD y]).length = (acc ++ [y]).length := by simp
            go_roundg (us2.length + 1)
            case measure => omega
            case rel => exact ⟨us2, acc ++ [y], A6, c6, n, by omega, by omega, by simp at *; omega, by rw [World.size_setCell]; exact ly, Lib.hid (HR6.out.far (by simp only; omega) _), Lib.hid (grown_set HG6.out (by simp only; omega) _), Lib.hid (HX6.out.far (by simp only; omega) _), Lib.hid (by have h := HY6.out.set 1 (.slice A6 (acc.length + 1) c6); simpa using h), Lib.hid (by have h := HL6.out.far (p := ⟨m, 1, none⟩) (fun k hk => by have := hk.1; simp only; omega) (.slice A6 (acc.length + 1) c6); exact (by simpa using h.mono (ok' := fun k => m < k) (fun k hk => hk.1))), Lib.hid (by rw [HP.out]; exact steps_n HD.out HST.out HP3.out)⟩
          · go_wp2_with fail
            exact ⟨rfl, World.grownBy.trans HG.out hg, .inr ⟨er, at_, (by rw [HP.out]; exact steps_e HD.out HST.out hp), rfl⟩⟩
      · have HD := Lib.hid hw
        clear hw
        have HG_ := Lib.hid (World.grownBy.trans HG.out hg)
        have HR_ := Lib.hid hr
        have HX_ := Lib.hid (HX.out.kept hg (by omega))
        have HY_ := Lib.hid (HY.out.kept hg (by omega))
        have HL_ := Lib.hid (HL.out.grown hg (fun k hk e => by injection e; omega))
        have hmw := blk_lt HY_.out
        clear hg hr HG HR HX HY HL
        have HG := HG_
        have HR := HR_
        have HX := HX_
        have HY := HY_
        have HL := HL_
        clear HG_ HR_ HX_ HY_ HL_
        have HPE : Hid (placeP ts = .ok (⟨x, acc⟩, us')) := Lib.hid (by rw [HP.out]; exact steps_f HD.out)
        have HPUT : ∀ w', Put W.heap.size (m + 1) w20 w' → Does placeP (Leads W Plc.d) W R ts (.returned (.agg #[.string x, .slice A acc.length c])) w' := fun w' hput => ⟨hput.grown HG.out (Nat.le_refl _), .inl ⟨⟨x, acc⟩, us', _, HPE.out, rfl, Leads.plc_mk ((HL.out.step (fun k hk _ => hput.block k (.inr (by omega)))).mono (fun k hk => by omega)), HR.out.put hput hR, by omega⟩⟩
        obtain ⟨lHX, cHX, fHX⟩ := HX.out.see
        obtain ⟨lHY, cHY, fHY⟩ := HY.out.see
        have hne01 : (W.heap.size = m) = False := eq_false (by omega)
        have hne10 : (m = W.heap.size) = False := eq_false (by omega)
        go_wp2_with fail
        refine bodyPost_ret (v := .agg #[.string x, .slice A acc.length c]) (by (simp only [results, Tryd.results66]); go_simp) rfl (HPUT _ ?_)
        repeat (first | with_reducible exact Put.refl _ _ _ | (with_reducible refine Put.set ?_ ?_ ?_ _; rotate_left; (simp only; omega); (simp only; omega)))
  · go_wp2_with fail
    exact ⟨rfl, World.grownBy.trans HG.out hg, .inr ⟨er, at_, (by rw [placeP]; exact Ps.bd_err hp), rfl⟩⟩
end Go.Proofs.YtjoiflokekebkaaDoor
