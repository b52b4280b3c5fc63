/- Walks: rising. -/
import Derived.Test.YtjoiflokekebkaaDoorR22
import Derived.Test.YtjoiflokekebkaaDoorKr
import Derived.Deep.QuietTactic
import Derived.BigQuiet
set_option linter.all false
namespace Go.Proofs.YtjoiflokekebkaaDoor
open Go.RowKit

mutual
def stSz : Stm → Nat
  | .mk _ _ _ _ _ _ _ th el arms => stSzL th + stSzL el + arSzL arms + 1
def stSzL : List Stm → Nat
  | [] => 0
  | s :: r => stSz s + stSzL r
def arSzL : List Arm → Nat
  | [] => 0
  | .mk _ _ b :: r => stSzL b + 1 + arSzL r
end
theorem stSz_mem {l : List Stm} {i : Nat} {s : Stm} (h : l[i]? = some s) : stSz s ≤ stSzL l := by
  induction l generalizing i with
  | nil => simp at h
  | cons a r ih =>
    rw [stSzL]
    cases i with
    | zero => simp at h; subst h; omega
    | succ i => have := ih (by simpa using h); omega
theorem arSz_mem {l : List Arm} {i : Nat} {v b : ByteArray} {body : List Stm} (h : l[i]? = some (.mk v b body)) : stSzL body < arSzL l := by
  induction l generalizing i with
  | nil => simp at h
  | cons a r ih =>
    cases a
    rw [arSzL]
    cases i with
    | zero => simp at h; obtain ⟨_, _, rfl⟩ := h; omega
    | succ i => have := ih (by simpa using h); omega
section
variable {W : World} {A : Option Addr} {n c i : Nat}
/-- A statement's cells in a row. -/
theorem Stm.at_ {l : List Stm} {k a : Int} {nm : ByteArray} {t : Ty} {p : Plc} {rv : Rvl} {op : Opr} {th el : List Stm} {arms : List Arm} (h : See W (.slice A n c) (.row 65 21 (l.map Stm.d))) (hi : l[i]? = some (.mk k a nm t p rv op th el arms)) :
    ∃ b o u1 u2 u3, A = some ⟨b, o, none⟩ ∧ W.cell? ⟨b, o + i * 21 + 1, none⟩ = some (.int .i64 a) ∧ W.cell? ⟨b, o + i * 21 + 18, none⟩ = some u1 ∧ W.cell? ⟨b, o + i * 21 + 19, none⟩ = some u2 ∧ W.cell? ⟨b, o + i * 21 + 20, none⟩ = some u3 ∧
      See W u1 (.row 65 21 (th.map Stm.d)) ∧ See W u2 (.row 65 21 (el.map Stm.d)) ∧ See W u3 (.row 77 3 (arms.map Arm.d)) := by
  obtain ⟨b, o, hA, hx⟩ := h.elt (ds := (Stm.mk k a nm t p rv op th el arms).d) (by rw [List.getElem?_map, hi]; rfl)
  obtain ⟨tk, tn, tl⟩ := t
  obtain ⟨x1, c1, s1⟩ := hx 1 (.v (.int .i64 a)) (by simp only [Stm.d]; rfl)
  obtain ⟨x18, c18, s18⟩ := hx 18 (.row 65 21 (Stm.ds th)) (by simp only [Stm.d, Ty.d, Rvl.d, Opr.d, Plc.d]; rfl)
  obtain ⟨x19, c19, s19⟩ := hx 19 (.row 65 21 (Stm.ds el)) (by simp only [Stm.d, Ty.d, Rvl.d, Opr.d, Plc.d]; rfl)
  obtain ⟨x20, c20, s20⟩ := hx 20 (.row 77 3 (Arm.ds arms)) (by simp only [Stm.d, Ty.d, Rvl.d, Opr.d, Plc.d]; rfl)
  obtain rfl := s1.v_eq
  rw [Stm.ds_map] at s18 s19
  rw [Arm.ds_map] at s20
  exact ⟨b, o, _, _, _, hA, c1, c18, c19, c20, s18, s19, s20⟩
theorem Arm.at_ {l : List Arm} {v bd : ByteArray} {body : List Stm} (h : See W (.slice A n c) (.row 77 3 (l.map Arm.d))) (hi : l[i]? = some (.mk v bd body)) :
    ∃ b o u, A = some ⟨b, o, none⟩ ∧ W.cell? ⟨b, o + i * 3, none⟩ = some (.string v) ∧ W.cell? ⟨b, o + i * 3 + 1, none⟩ = some (.string bd) ∧ W.cell? ⟨b, o + i * 3 + 2, none⟩ = some u ∧ See W u (.row 65 21 (body.map Stm.d)) := by
  obtain ⟨b, o, x0, x1, x2, hA, ⟨s0, s1, s2, _⟩, c0, c1, c2⟩ := h.at3 hi (by simp [Arm.d])
  obtain rfl := s0.v_eq
  obtain rfl := s1.v_eq
  rw [Stm.ds_map] at s2
  exact ⟨b, o, _, hA, c0, c1, c2, s2⟩
end
theorem risL_drop {l : List Tk} {ss : List Stm} {i : Nat} {k a : Int} {nm : ByteArray} {t : Ty} {p : Plc} {rv : Rvl} {op : Opr} {th el : List Stm} {arms : List Arm} (hi : ss[i]? = some (.mk k a nm t p rv op th el arms)) (lo : Int) :
    risL l (ss.drop i) lo = (beginsB l a ⟨#[]⟩ && decide (lo < a) && risL l th a && risL l el a && risA l arms a && risL l (ss.drop (i + 1)) a) := by
  obtain ⟨hlt, he⟩ := List.getElem?_eq_some_iff.1 hi
  rw [List.drop_eq_getElem_cons hlt, he, risL, risS]
theorem risA_drop {l : List Tk} {as_ : List Arm} {i : Nat} {v b : ByteArray} {body : List Stm} (hi : as_[i]? = some (.mk v b body)) (a : Int) : risA l (as_.drop i) a = (risL l body a && risA l (as_.drop (i + 1)) a) := by
  obtain ⟨hlt, he⟩ := List.getElem?_eq_some_iff.1 hi
  rw [List.drop_eq_getElem_cons hlt, he, risA]
theorem See.drewN {W : World} {u : Value} {d : D} (h : See W u d) (n : Nat) : See (W.drewN n) u d := h.bel (bel_drewN (Below.refl _ _) n)
theorem Sees.drewN {W : World} {u : List Value} {d : List D} (h : Sees W u d) (n : Nat) : Sees (W.drewN n) u d := h.below (bel_drewN (Below.refl _ _) n)
/-- Nothing but draws. -/
def Dn (w w' : World) : Prop := ∃ n, w' = w.drewN n
theorem Dn.refl (w : World) : Dn w w := ⟨0, rfl⟩
theorem Dn.more {w w' : World} (h : Dn w w') (n : Nat) : Dn w (w'.drewN n) := by obtain ⟨k, rfl⟩ := h; exact ⟨k + n, by rw [World.drewN_drewN]⟩
theorem Dn.trans {w w' w2 : World} (h : Dn w w') (h2 : Dn w' w2) : Dn w w2 := by obtain ⟨k, rfl⟩ := h2; exact h.more k
theorem Dn.below {w w' : World} (h : Dn w w') : Below w.heap.size w w' := by obtain ⟨k, rfl⟩ := h; exact bel_drewN (Below.refl _ _) k
theorem row_dn {w w' : World} {base : Nat} {e : TypeId} {size n : Nat} {v : Value} {xs : List Value} (h : w.ownsRow base e size v n xs) (hd : Dn w w') : w'.ownsRow base e size v n xs := by obtain ⟨k, rfl⟩ := hd; exact h
theorem row_drewN {w : World} {base : Nat} {e : TypeId} {size n : Nat} {v : Value} {xs : List Value} (h : w.ownsRow base e size v n xs) (k : Nat) : (w.drewN k).ownsRow base e size v n xs := h
set_option maxRecDepth 100000 in
set_option maxHeartbeats 8000000 in
theorem rising_fuel : ∀ (m : Nat) (ss : List Stm), stSzL ss < m → ∀ (l : List Tk) (v u : Value) (a : Int) (W : World) (B : Nat), W.ownsRow B 48 4 v l.length (tcells l) → See W u (.row 65 21 (ss.map Stm.d)) →
    Calls Tryd.prog 9 #[v, u, .int .i64 a] W fun e w' => e = .returned (.bool (risL l ss a)) ∧ ∃ k, w' = W.drewN k := by
  intro m
  induction m with
  | zero => intro ss hm; omega
  | succ m ih =>
    intro ss hm l v u a W B ho hs
    obtain ⟨A, c, rfl, hlc, hcm⟩ := hs.formOf
    have HS := Lib.hid hs
    have HO := Lib.hid ho
    have HI := Lib.hid ih
    clear hs ho ih
    go_enter Tryd.func9, Tryd.ntmps9
    go_wp2_with fail
    go_loopw [2, 7] (fun v2 v7 wr => ∃ (i : Nat) (a' : Int), v7 = .int .i64 i ∧ v2 = .int .i64 a' ∧ i ≤ ss.length ∧ Hid (risL l ss a = risL l (ss.drop i) a') ∧ Hid (Dn W wr)) (fun _ v7 _ => ss.length - (intOf v7).toNat)
    case atStart => exact ⟨0, a, rfl, rfl, Nat.zero_le _, Lib.hid rfl, Lib.hid (Dn.refl _)⟩
    case round =>
      obtain ⟨i, a', rfl, rfl, hi, hp, hd⟩ := hrel
      by_cases hlt : i < ss.length
      · have htl : (i : Int) < (ss.length : Int) := by omega
        obtain ⟨s, hss⟩ : ∃ s, ss[i]? = some s := ⟨_, List.getElem?_eq_getElem hlt⟩
        have hsz := stSz_mem hss
        obtain ⟨k, at_, nm, t, p, rv, op, th, el, arms⟩ := s
        rw [stSz] at hsz
        rw [risL_drop hss] at hp
        obtain ⟨b, o, u1, u2, u3, rfl, c1, c18, c19, c20, s18, s19, s20⟩ := Stm.at_ (HS.out.bel hd.out.below) hss
        have S18 := Lib.hid s18
        have S19 := Lib.hid s19
        have S20 := Lib.hid s20
        clear s18 s19 s20 hss
        have OR := Lib.hid (row_dn HO.out hd.out)
        go_wp2_with fail
        refine (begins_any l v at_ ⟨#[]⟩ _ B OR.out).mono ?_
        rintro e w2 ⟨rfl, hw2⟩
        subst hw2
        generalize hbg : beginsB l at_ ⟨#[]⟩ = bg at *
        clear hbg
        go_wp2_with fail
        go_quiet (first | (go_at_call 9; refine Calls.quiet_of (HI.out th (by omega) l v u1 at_ _ B (row_drewN OR.out _) (S18.out.drewN _))))
        have hd2 := Lib.hid (hd.out.more nq)
        have OR2 := Lib.hid (row_drewN OR.out nq)
        have T19 := Lib.hid (S19.out.drewN nq)
        have T20 := Lib.hid (S20.out.drewN nq)
        have d1 : (w2.drewN nq).cell? ⟨b, o + i * 21 + 1, none⟩ = some (.int .i64 at_) := c1
        have d19 : (w2.drewN nq).cell? ⟨b, o + i * 21 + 19, none⟩ = some u2 := c19
        have d20 : (w2.drewN nq).cell? ⟨b, o + i * 21 + 20, none⟩ = some u3 := c20
        clear c1 c18 c19 c20 S18 S19 S20 OR hd
        generalize w2.drewN nq = w3 at *
        generalize hth : risL l th at_ = bt at *
        clear hth
        go_wp2_with fail
        go_quiet (first | (go_at_call 9; refine Calls.quiet_of (HI.out el (by omega) l v u2 at_ _ B (row_drewN OR2.out _) (T19.out.drewN _))))
        have hd4 := Lib.hid (hd2.out.more nq)
        have OR4 := Lib.hid (row_drewN OR2.out nq)
        have V20 := Lib.hid (T20.out.drewN nq)
        have e1 : (w3.drewN nq).cell? ⟨b, o + i * 21 + 1, none⟩ = some (.int .i64 at_) := d1
        have e20 : (w3.drewN nq).cell? ⟨b, o + i * 21 + 20, none⟩ = some u3 := d20
        clear d1 d19 d20 T19 T20 OR2 hd2
        generalize w3.drewN nq = w4 at *
        generalize hel : risL l el at_ = be at *
        clear hel
        by_cases hbad : (bg && decide (a' < at_) && bt && be) = true
        · simp only [Bool.and_eq_true, decide_eq_true_eq] at hbad
          obtain ⟨⟨⟨rfl, hlo⟩, rfl⟩, rfl⟩ := hbad
          have hnle : ¬ at_ ≤ a' := by omega
          have hp2 : Hid (risL l ss a = (risA l arms at_ && risL l (ss.drop (i + 1)) at_)) := Lib.hid (by rw [hp.out, decide_eq_true hlo]; simp)
          obtain ⟨A3, c3, rfl, hlc3, hcm3⟩ := V20.out.formOf
          clear hp
          go_wp2_with fail
          go_loopw [11] (fun v11 wq => ∃ (q : Nat), v11 = .int .i64 q ∧ q ≤ arms.length ∧ Hid (risA l arms at_ = risA l (arms.drop q) at_) ∧ Hid (Dn w4 wq)) (fun v11 _ => arms.length - (intOf v11).toNat)
          case atStart => exact ⟨0, rfl, Nat.zero_le _, Lib.hid rfl, Lib.hid (Dn.refl _)⟩
          case round =>
            obtain ⟨q, rfl, hq, hpq, hdq⟩ := hrel
            have g20 : wr.cell? ⟨b, o + i * 21 + 20, none⟩ = some (.slice A3 arms.length c3) := by obtain ⟨k, rfl⟩ := hdq.out; exact e20
            by_cases hql : q < arms.length
            · have hqi : (q : Int) < (arms.length : Int) := by omega
              obtain ⟨ar, har⟩ : ∃ s, arms[q]? = some s := ⟨_, List.getElem?_eq_getElem hql⟩
              obtain ⟨vv, bb, body⟩ := ar
              have hbs := arSz_mem har
              rw [risA_drop har] at hpq
              obtain ⟨b2, o2, u4, rfl, _, _, f2, s4⟩ := Arm.at_ (V20.out.bel hdq.out.below) har
              have S4 := Lib.hid s4
              have OR5 := Lib.hid (row_dn OR4.out hdq.out)
              clear s4 har
              go_wp2_with fail
              refine (HI.out body (by omega) l v u4 at_ _ B OR5.out S4.out).mono ?_
              rintro e w6 ⟨rfl, hd6⟩
              have hd7 := Lib.hid (hdq.out.trans hd6)
              clear hd6
              generalize hbd : risL l body at_ = bd at *
              clear hbd
              cases bd with
              | true =>
                have hp3 : Hid (risA l arms at_ = risA l (arms.drop (q + 1)) at_) := Lib.hid (by rw [hpq.out]; rfl)
                go_wp2_with fail
                go_roundw
                case rel => exact ⟨q + 1, by go_num, by omega, hp3, hd7⟩
                case measure => simp [intOf]; omega
              | false =>
                have HF : risL l ss a = false := by rw [hp2.out, hpq.out]; rfl
                go_wp2_with fail
                go_ret
                exact ⟨by rw [HF]; rfl, hd4.out.trans hd7.out⟩
            · obtain rfl : q = arms.length := by omega
              have HT : Hid (risL l ss a = risL l (ss.drop (i + 1)) at_) := Lib.hid (by rw [hp2.out, hpq.out, List.drop_length, risA, Bool.true_and])
              go_wp2_with fail
              go_roundw
              case rel => exact ⟨i + 1, at_, by go_num, rfl, by omega, HT, Lib.hid (hd4.out.trans hdq.out)⟩
              case measure => simp [intOf]; omega
        · have HF : Hid (risL l ss a = false) := Lib.hid (by
            rw [hp.out]
            simp only [Bool.not_eq_true] at hbad
            rw [hbad]; rfl)
          cases bg with
          | false =>
            go_wp2_with fail
            go_ret
            exact ⟨by rw [HF.out]; rfl, hd4.out⟩
          | true =>
            by_cases hle : at_ ≤ a'
            · go_wp2_with fail
              go_ret
              exact ⟨by rw [HF.out]; rfl, hd4.out⟩
            have hlt2 : a' < at_ := by omega
            cases bt with
            | false =>
              go_wp2_with fail
              go_ret
              exact ⟨by rw [HF.out]; rfl, hd4.out⟩
            | true =>
              cases be with
              | false =>
                go_wp2_with fail
                go_ret
                exact ⟨by rw [HF.out]; rfl, hd4.out⟩
              | true => simp [hlt2] at hbad
      · obtain rfl : i = ss.length := by omega
        have HP : risL l ss a = true := by rw [hp.out, List.drop_length, risL]
        go_wp2_with fail
        go_ret
        exact ⟨by rw [HP]; rfl, hd.out⟩
theorem rising_any (ss : List Stm) (l : List Tk) (v u : Value) (a : Int) (W : World) (B : Nat) (ho : W.ownsRow B 48 4 v l.length (tcells l)) (hs : See W u (.row 65 21 (ss.map Stm.d))) :
    Calls Tryd.prog 9 #[v, u, .int .i64 a] W fun e w' => e = .returned (.bool (risL l ss a)) ∧ ∃ k, w' = W.drewN k := rising_fuel _ ss (Nat.lt_succ_self _) l v u a W B ho hs
end Go.Proofs.YtjoiflokekebkaaDoor
