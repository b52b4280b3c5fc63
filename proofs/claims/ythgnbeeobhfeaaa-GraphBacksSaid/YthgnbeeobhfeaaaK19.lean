/- Texts of this claim in one file: H47, H48. -/
import Derived.Test.YthgnbeeobhfeaaaK18
set_option linter.all false
section
/- Walks: the two answers of what holds are the same. -/
namespace Go.Proofs.Ythgnbeeobhfeaaa.T
open Go.RowKit Go.Shelf Go.Proofs.YthgnbeeobhfeaaaW.PrintWords Go.Proofs.YthgnbeeobhfeaaaW.PrintLast

/-- Rows of rows of flags, as they are read. -/
def RD2 (W : World) (A : Option Addr) (xss : List (List Bool)) : Prop := xss.length ≤ 9223372036854775807 ∧ ∀ (k : Nat) (x : List Bool), xss[k]? = some x → ∃ g Ax dx, A = some ⟨g, 0, none⟩ ∧ W.cell? ⟨g, k, none⟩ = some (.slice Ax x.length dx) ∧ Kd.bool.C W Ax x.length x
def RD3 (W : World) (A : Option Addr) (xsss : List (List (List Bool))) : Prop := ∀ (i : Nat) (xss : List (List Bool)), xsss[i]? = some xss → ∃ g A2 d2, A = some ⟨g, 0, none⟩ ∧ W.cell? ⟨g, i, none⟩ = some (.slice A2 xss.length d2) ∧ RD2 W A2 xss
theorem RD2.below {W W' : World} {A : Option Addr} {xss : List (List Bool)} (h : RD2 W A xss) (hb : Below W.heap.size W W') : RD2 W' A xss :=
  ⟨h.1, fun k x hk => by
    obtain ⟨g, Ax, dx, h1, h2, h3⟩ := h.2 k x hk
    exact ⟨g, Ax, dx, h1, pw_cell_below hb h2, Kd.C_below h3 hb⟩⟩
theorem RD3.below {W W' : World} {A : Option Addr} {xsss : List (List (List Bool))} (h : RD3 W A xsss) (hb : Below W.heap.size W W') : RD3 W' A xsss := fun i xss hi => by
  obtain ⟨g, A2, d2, h1, h2, h3⟩ := h i xss hi
  exact ⟨g, A2, d2, h1, pw_cell_below hb h2, h3.below hb⟩
theorem own_len4 {W : World} {B : Nat} {e : TypeId} {z : Nat} {v : Value} {n : Nat} {xs : List Value} (h : W.ownsRow B e z v n xs) : n ≤ 9223372036854775807 := by
  obtain ⟨_, ⟨_, rfl⟩ | ⟨g, cap, cur, _, _, _, h1, h2, _⟩⟩ := h
  · omega
  · have : maxLen = 9223372036854775807 := rfl
    omega
theorem OB.C4 {W : World} {B : Nat} {A : Option Addr} {n c : Nat} {xs : List Bool} (h : OB W B (.slice A n c) xs) : Kd.bool.C W A xs.length xs := by
  obtain ⟨A', c', h1, _, h3⟩ := OB.reads h
  injection h1 with h1
  subst h1
  exact h3
theorem drawn0_tr2 {a b c : World} (h : Drawn0 a b) (k : Drawn0 b c) : Drawn0 a c := by
  obtain ⟨n, rfl⟩ := k
  exact Drawn0.step h n
theorem own_form1 {W : World} {B : Nat} {e : TypeId} {v : Value} {n : Nat} {xs : List Value} (h : W.ownsRow B e 1 v n xs) (hp : 0 < n) : ∃ g cap, v = .slice (some ⟨g, 0, none⟩) n cap ∧ B ≤ g ∧ g < W.heap.size := h.form hp
theorem N3.rd {W : World} {B : Nat} {A : Option Addr} {n c : Nat} {xsss : List (List (List Bool))} (h : N3 W B (.slice A n c) xsss) : RD3 W A xsss := fun i xss hi => by
  obtain ⟨g, c', A2, d2, h1, h2, h3⟩ := h.at_ hi
  injection h1 with h1
  refine ⟨g, A2, d2, h1, h2, own_len4 h3.own.choose_spec.1, fun k x hk => ?_⟩
  obtain ⟨g', c'', Ax, dx, h4, h5, h6⟩ := h3.at_ hk
  injection h4 with h4
  exact ⟨g', Ax, dx, h4, h5, h6.C4⟩
theorem R3.rd {W : World} {g : Nat} {us : List Value} {xsss : List (List (List Bool))} (h : R3 W g us xsss) : RD3 W (some ⟨g, 0, none⟩) xsss := fun i xss hi => by
  have hlt := (List.getElem?_eq_some_iff.1 hi).1
  obtain ⟨u, hu⟩ : ∃ u, us[i]? = some u := ⟨_, List.getElem?_eq_getElem (by have := h.2.1; omega)⟩
  obtain ⟨vs, hq⟩ := h.2.2 i u xss hu hi
  obtain ⟨A2, d2, rfl⟩ := own_slice hq.1
  rw [hq.2.1] at hu
  refine ⟨g, A2, d2, rfl, h.1.cell i _ (by simpa using hu), by have := own_len4 hq.1; have := hq.2.1; omega, fun k x hk => ?_⟩
  have hlk := (List.getElem?_eq_some_iff.1 hk).1
  obtain ⟨v, hv⟩ : ∃ v, vs[k]? = some v := ⟨_, List.getElem?_eq_getElem (by have := hq.2.1; omega)⟩
  obtain ⟨hx, _⟩ := hq.2.2 k v x hv hk
  obtain ⟨Ax, dx, rfl⟩ := own_slice hx
  obtain ⟨g', cap, e, _, _⟩ := own_form1 hq.1 (by have := hq.2.1; omega)
  injection e with e1
  subst e1
  have hc := hq.1.cells (g := g') rfl k _ hv
  have hc : W.cell? ⟨g', k, none⟩ = some (.slice Ax x.length dx) := by
    by_cases h0 : k = 0
    · subst h0
      exact hc
    · simpa [Addr.add, h0] using hc
  exact ⟨g', Ax, dx, rfl, hc, hx.C4⟩

set_option maxRecDepth 100000 in
set_option maxHeartbeats 8000000 in
theorem rsame3_any (w : World) (A B : Option Addr) (ca cb : Nat) (xsss : List (List (List Bool))) (hx : RD3 w A xsss) (hy : RD3 w B xsss) (hl : xsss.length ≤ 9223372036854775807) :
    Calls Try.prog 12 #[.slice A xsss.length ca, .slice B xsss.length cb] w fun e w' => e = .returned (.bool true) ∧ Drawn0 w w' := by
  have HX := Lib.hid hx
  have HY := Lib.hid hy
  clear hx hy
  go_enter Try.func12, Try.ntmps12
  go_wp2_with fail
  go_loopw [5] (fun u wr => ∃ i : Nat, u = .int .i64 i ∧ i ≤ xsss.length ∧ Hid (Drawn0 w wr)) (fun u _ => xsss.length - (intOf u).toNat)
  case atStart => exact ⟨0, rfl, Nat.zero_le _, Lib.hid ⟨0, rfl⟩⟩
  case round =>
    obtain ⟨i, rfl, hi, HD⟩ := hrel
    by_cases hlt : i < xsss.length
    · obtain ⟨xss, hxs⟩ : ∃ xss, xsss[i]? = some xss := ⟨_, List.getElem?_eq_getElem hlt⟩
      obtain ⟨gx, Ax, dx, rfl, hcx, hrx⟩ := HX.out i xss hxs
      obtain ⟨gy, Ay, dy, rfl, hcy, hry⟩ := HY.out i xss hxs
      have HRX := Lib.hid hrx
      have HRY := Lib.hid hry
      have hxl : xss.length ≤ 9223372036854775807 := hrx.1
      have zx := pw_cell_below HD.out.below hcx
      have zy := pw_cell_below HD.out.below hcy
      clear hxs hrx hry
      go_wp2_with fail
      try (go_quiet (fail))
      try (go_wp2_with fail)
      clear zx zy
      go_loopw [6] (fun u wr => ∃ k : Nat, u = .int .i64 k ∧ k ≤ xss.length ∧ Hid (Drawn0 w wr)) (fun u _ => xss.length - (intOf u).toNat)
      case atStart => exact ⟨0, rfl, Nat.zero_le _, by first | exact HD | exact Lib.hid (Drawn0.step HD.out _)⟩
      case round =>
        clear HD
        obtain ⟨k, rfl, hk, HD⟩ := hrel
        have zx := pw_cell_below HD.out.below hcx
        have zy := pw_cell_below HD.out.below hcy
        by_cases hltk : k < xss.length
        · obtain ⟨x, hx⟩ : ∃ x, xss[k]? = some x := ⟨_, List.getElem?_eq_getElem hltk⟩
          obtain ⟨hu, Au, du, rfl, hcu, hCu⟩ := HRX.out.2 k x hx
          obtain ⟨hv, Av, dv, rfl, hcv, hCv⟩ := HRY.out.2 k x hx
          have zu := pw_cell_below HD.out.below hcu
          have zv := pw_cell_below HD.out.below hcv
          have HSM : Hid (∀ W, Below w.heap.size w W → Calls Try.prog 26 #[.slice Au x.length du, .slice Av x.length dv] W fun e w' => e = .returned (.bool true) ∧ Drawn0 W w') := Lib.hid (fun W hW => by
            have h := rsame_any W Au Av du dv x x (Kd.C_below hCu hW) (Kd.C_below hCv hW) rfl
            rwa [show decide (x = x) = true from decide_eq_true rfl] at h)
          clear hx hCu hCv
          go_wp2_with fail
          first
            | (refine (HSM.out wr HD.out.below).mono ?_
               rintro e w9 ⟨rfl, hd9⟩
               have HD9 := Lib.hid (drawn0_tr2 HD.out hd9)
               clear hd9
               go_wp2_with fail
               go_roundw
               case rel => exact ⟨k + 1, by go_num, by omega, HD9⟩
               case measure => first | (simp [intOf]; omega) | (simp [intOf]; done))
            | (go_quiet ((go_at_call 26; exact Calls.quiet_of (drawn_ex2 (HSM.out _ (pw_below_drewN HD.out.below _)))))
               go_wp2_with fail
               go_roundw
               case rel => exact ⟨k + 1, by go_num, by omega, Lib.hid (Drawn0.step HD.out _)⟩
               case measure => first | (simp [intOf]; omega) | (simp [intOf]; done))
        · obtain rfl : k = xss.length := by omega
          clear hltk hk
          go_wp2_with fail
          go_roundw
          case rel => exact ⟨i + 1, by go_num, by omega, HD⟩
          case measure => first | (simp [intOf]; omega) | (simp [intOf]; done)
    · obtain rfl : i = xsss.length := by omega
      clear hlt hi
      go_wp2_with fail
      go_ret
      exact ⟨rfl, HD.out⟩
end Go.Proofs.Ythgnbeeobhfeaaa.T
end

section
/- Walks: what holds, on one way or on all, is just what the document says. -/
namespace Go.Proofs.Ythgnbeeobhfeaaa.T
open Go.RowKit Go.Shelf Go.Proofs.YthgnbeeobhfeaaaW.PrintWords Go.Proofs.YthgnbeeobhfeaaaW.PrintLast

end Go.Proofs.Ythgnbeeobhfeaaa.T
end
