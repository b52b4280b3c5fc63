/- Walks: the sign between two operands. -/
import Derived.Test.YtjoiflokekebkaaDoorR8
set_option linter.all false
namespace Go.Proofs.YtjoiflokekebkaaDoor
open Go.RowKit

def sg (k : Nat) : ByteArray := ([⟨#[43]⟩, ⟨#[45]⟩, ⟨#[42]⟩, ⟨#[60]⟩, ⟨#[61, 61]⟩] : List ByteArray).getD k noB
theorem sg_0 (w : World) : (Instr.index 150 (.agg #[.string ⟨#[43]⟩, .string ⟨#[45]⟩, .string ⟨#[42]⟩, .string ⟨#[60]⟩, .string ⟨#[61, 61]⟩]) (.int .i64 0)).run Tryd.prog w = .ok (.string ⟨#[43]⟩) w := by kernel_rfl
theorem sg_1 (w : World) : (Instr.index 150 (.agg #[.string ⟨#[43]⟩, .string ⟨#[45]⟩, .string ⟨#[42]⟩, .string ⟨#[60]⟩, .string ⟨#[61, 61]⟩]) (.int .i64 1)).run Tryd.prog w = .ok (.string ⟨#[45]⟩) w := by kernel_rfl
theorem sg_2 (w : World) : (Instr.index 150 (.agg #[.string ⟨#[43]⟩, .string ⟨#[45]⟩, .string ⟨#[42]⟩, .string ⟨#[60]⟩, .string ⟨#[61, 61]⟩]) (.int .i64 2)).run Tryd.prog w = .ok (.string ⟨#[42]⟩) w := by kernel_rfl
theorem sg_3 (w : World) : (Instr.index 150 (.agg #[.string ⟨#[43]⟩, .string ⟨#[45]⟩, .string ⟨#[42]⟩, .string ⟨#[60]⟩, .string ⟨#[61, 61]⟩]) (.int .i64 3)).run Tryd.prog w = .ok (.string ⟨#[60]⟩) w := by kernel_rfl
theorem sg_4 (w : World) : (Instr.index 150 (.agg #[.string ⟨#[43]⟩, .string ⟨#[45]⟩, .string ⟨#[42]⟩, .string ⟨#[60]⟩, .string ⟨#[61, 61]⟩]) (.int .i64 4)).run Tryd.prog w = .ok (.string ⟨#[61, 61]⟩) w := by kernel_rfl
/-- A sign, or none. -/
def Sg (W : World) (R : Nat) (ts : List Tk) (e : Ending) (W' : World) : Prop :=
  W.grownBy W' (some R) ∧ ((∃ k, k < 5 ∧ (∀ j, j < k → isW (sg j) ts = false) ∧ isW (sg k) ts = true ∧ e = .returned (.tuple #[.int .i64 (1 + k), .bool true]) ∧ Rdr W' R ts.tail) ∨
    ((∀ j, j < 5 → isW (sg j) ts = false) ∧ e = .returned (.tuple #[.int .i64 0, .bool false]) ∧ Rdr W' R ts))
def sgP (a : Opr) : Ps Rvl := optE (⟨#[43]⟩ : ByteArray) (signE a 1) <| optE (⟨#[45]⟩ : ByteArray) (signE a 2) <| optE (⟨#[42]⟩ : ByteArray) (signE a 3) <| optE (⟨#[60]⟩ : ByteArray) (signE a 4) <| optE (⟨#[61, 61]⟩ : ByteArray) (signE a 5) (.ret ⟨0, [a], .zero, noB, noB⟩)
theorem sgP_t {a : Opr} {ts : List Tk} {k : Nat} (hk : k < 5) (h0 : ∀ j, j < k → isW (sg j) ts = false) (h1 : isW (sg k) ts = true) : sgP a ts = signE a (1 + k) ts.tail := by
  unfold sgP
  match k, hk with
  | 0, _ => exact optE_t h1
  | 1, _ => exact (optE_f (h0 0 (by omega))).trans (optE_t h1)
  | 2, _ => exact (optE_f (h0 0 (by omega))).trans ((optE_f (h0 1 (by omega))).trans (optE_t h1))
  | 3, _ => exact (optE_f (h0 0 (by omega))).trans ((optE_f (h0 1 (by omega))).trans ((optE_f (h0 2 (by omega))).trans (optE_t h1)))
  | 4, _ => exact (optE_f (h0 0 (by omega))).trans ((optE_f (h0 1 (by omega))).trans ((optE_f (h0 2 (by omega))).trans ((optE_f (h0 3 (by omega))).trans (optE_t h1))))
theorem sgP_f {a : Opr} {ts : List Tk} (h0 : ∀ j, j < 5 → isW (sg j) ts = false) : sgP a ts = .ok (⟨0, [a], .zero, noB, noB⟩, ts) := by
  unfold sgP
  exact (optE_f (h0 0 (by omega))).trans ((optE_f (h0 1 (by omega))).trans ((optE_f (h0 2 (by omega))).trans ((optE_f (h0 3 (by omega))).trans (optE_f (h0 4 (by omega))))))
set_option maxRecDepth 100000 in
set_option maxHeartbeats 4000000 in
theorem sign_rd {W : World} {R : Nat} {ts : List Tk} (h : Rdr W R ts) : Calls Tryd.prog 71 #[.pointer (some ⟨R, 0, none⟩)] W fun e W' => Sg W R ts e W' := by
  have hR := h.lt
  have HR := Lib.hid h
  have HG := Lib.hid (World.grownBy.refl W (some R))
  have h0 := sg_0
  have h1 := sg_1
  have h2 := sg_2
  have h3 := sg_3
  have h4 := sg_4
  clear h
  go_enter Tryd.func71, Tryd.ntmps71
  go_wp2_with fail
  go_loopw [4, 5, 7] (fun _ _ u7 wr => ∃ t : Nat, t ≤ 5 ∧ u7 = .int .i64 t ∧ Hid (Rdr wr R ts) ∧ Hid (W.grownBy wr (some R)) ∧ Hid (∀ j, j < t → isW (sg j) ts = false)) (fun _ _ u _ => 6 - (intOf u).toNat)
  case atStart => exact ⟨0, by omega, rfl, HR, HG, Lib.hid (fun j hj => by omega)⟩
  case round =>
    clear HR HG
    obtain ⟨t, ht, rfl, HR, HG, HN⟩ := hrel
    match t, ht with
    | 0, _ =>
      go_wp2_with fail
      refine (opt_rd HR.out ⟨#[43]⟩).mono ?_
      rintro e w1 ⟨hg, ⟨hw, rfl, hr⟩ | ⟨hw, rfl, hr⟩⟩
      · have HW := Lib.hid hw
        have HG1 := Lib.hid (World.grownBy.trans HG.out hg)
        have HR1 := Lib.hid hr
        clear hw hg hr
        go_wp2_with fail
        exact bodyPost_ret (v := .tuple #[.int .i64 1, .bool true]) (by (simp only [results, Tryd.results71]); go_simp) rfl ⟨HG1.out, .inl ⟨0, by omega, HN.out, HW.out, rfl, HR1.out⟩⟩
      · have HN1 : Hid (∀ j, j < 1 → isW (sg j) ts = false) := Lib.hid (fun j hj => by
          by_cases e : j = 0
          · subst e; exact hw
          · exact HN.out j (by omega))
        have HG1 := Lib.hid (World.grownBy.trans HG.out hg)
        have HR1 := Lib.hid hr
        clear hw hg hr
        go_wp2_with fail
        go_roundw
        case rel => exact ⟨1, by omega, by first | rfl | go_num, HR1, HG1, HN1⟩
        case measure => simp [intOf]
    | 1, _ =>
      go_wp2_with fail
      refine (opt_rd HR.out ⟨#[45]⟩).mono ?_
      rintro e w1 ⟨hg, ⟨hw, rfl, hr⟩ | ⟨hw, rfl, hr⟩⟩
      · have HW := Lib.hid hw
        have HG1 := Lib.hid (World.grownBy.trans HG.out hg)
        have HR1 := Lib.hid hr
        clear hw hg hr
        go_wp2_with fail
        exact bodyPost_ret (v := .tuple #[.int .i64 2, .bool true]) (by (simp only [results, Tryd.results71]); go_simp) rfl ⟨HG1.out, .inl ⟨1, by omega, HN.out, HW.out, rfl, HR1.out⟩⟩
      · have HN1 : Hid (∀ j, j < 2 → isW (sg j) ts = false) := Lib.hid (fun j hj => by
          by_cases e : j = 1
          · subst e; exact hw
          · exact HN.out j (by omega))
        have HG1 := Lib.hid (World.grownBy.trans HG.out hg)
        have HR1 := Lib.hid hr
        clear hw hg hr
        go_wp2_with fail
        go_roundw
        case rel => exact ⟨2, by omega, by first | rfl | go_num, HR1, HG1, HN1⟩
        case measure => simp [intOf]
    | 2, _ =>
      go_wp2_with fail
      refine (opt_rd HR.out ⟨#[42]⟩).mono ?_
      rintro e w1 ⟨hg, ⟨hw, rfl, hr⟩ | ⟨hw, rfl, hr⟩⟩
      · have HW := Lib.hid hw
        have HG1 := Lib.hid (World.grownBy.trans HG.out hg)
        have HR1 := Lib.hid hr
        clear hw hg hr
        go_wp2_with fail
        exact bodyPost_ret (v := .tuple #[.int .i64 3, .bool true]) (by (simp only [results, Tryd.results71]); go_simp) rfl ⟨HG1.out, .inl ⟨2, by omega, HN.out, HW.out, rfl, HR1.out⟩⟩
      · have HN1 : Hid (∀ j, j < 3 → isW (sg j) ts = false) := Lib.hid (fun j hj => by
          by_cases e : j = 2
          · subst e; exact hw
          · exact HN.out j (by omega))
        have HG1 := Lib.hid (World.grownBy.trans HG.out hg)
        have HR1 := Lib.hid hr
        clear hw hg hr
        go_wp2_with fail
        go_roundw
        case rel => exact ⟨3, by omega, by first | rfl | go_num, HR1, HG1, HN1⟩
        case measure => simp [intOf]
    | 3, _ =>
      go_wp2_with fail
      refine (opt_rd HR.out ⟨#[60]⟩).mono ?_
      rintro e w1 ⟨hg, ⟨hw, rfl, hr⟩ | ⟨hw, rfl, hr⟩⟩
      · have HW := Lib.hid hw
        have HG1 := Lib.hid (World.grownBy.trans HG.out hg)
        have HR1 := Lib.hid hr
        clear hw hg hr
        go_wp2_with fail
        exact bodyPost_ret (v := .tuple #[.int .i64 4, .bool true]) (by (simp only [results, Tryd.results71]); go_simp) rfl ⟨HG1.out, .inl ⟨3, by omega, HN.out, HW.out, rfl, HR1.out⟩⟩
      · have HN1 : Hid (∀ j, j < 4 → isW (sg j) ts = false) := Lib.hid (fun j hj => by
          by_cases e : j = 3
          · subst e; exact hw
          · exact HN.out j (by omega))
        have HG1 := Lib.hid (World.grownBy.trans HG.out hg)
        have HR1 := Lib.hid hr
        clear hw hg hr
        go_wp2_with fail
        go_roundw
        case rel => exact ⟨4, by omega, by first | rfl | go_num, HR1, HG1, HN1⟩
        case measure => simp [intOf]
    | 4, _ =>
      go_wp2_with fail
      refine (opt_rd HR.out ⟨#[61, 61]⟩).mono ?_
      rintro e w1 ⟨hg, ⟨hw, rfl, hr⟩ | ⟨hw, rfl, hr⟩⟩
      · have HW := Lib.hid hw
        have HG1 := Lib.hid (World.grownBy.trans HG.out hg)
        have HR1 := Lib.hid hr
        clear hw hg hr
        go_wp2_with fail
        exact bodyPost_ret (v := .tuple #[.int .i64 5, .bool true]) (by (simp only [results, Tryd.results71]); go_simp) rfl ⟨HG1.out, .inl ⟨4, by omega, HN.out, HW.out, rfl, HR1.out⟩⟩
      · have HN1 : Hid (∀ j, j < 5 → isW (sg j) ts = false) := Lib.hid (fun j hj => by
          by_cases e : j = 4
          · subst e; exact hw
          · exact HN.out j (by omega))
        have HG1 := Lib.hid (World.grownBy.trans HG.out hg)
        have HR1 := Lib.hid hr
        clear hw hg hr
        go_wp2_with fail
        go_roundw
        case rel => exact ⟨5, by omega, by first | rfl | go_num, HR1, HG1, HN1⟩
        case measure => simp [intOf]
    | 5, _ =>
      go_wp2_with fail
      exact bodyPost_ret (v := .tuple #[.int .i64 0, .bool false]) (by (simp only [results, Tryd.results71]); go_simp) rfl ⟨HG.out, .inr ⟨HN.out, rfl, HR.out⟩⟩
end Go.Proofs.YtjoiflokekebkaaDoor
