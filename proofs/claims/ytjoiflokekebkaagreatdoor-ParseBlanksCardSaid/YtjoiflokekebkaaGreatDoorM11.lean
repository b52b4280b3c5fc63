/- Texts of this claim in one file: K2, K3, K4. -/
import Derived.Test.YtjoiflokekebkaaGreatDoorM10
import Derived.Test.YtjoiflokekebkaaGreatDoorM1
import Derived.BigQuiet
set_option linter.all false
section
/- Walks: slices.IndexFunc; the place of a name. -/
namespace Go.Proofs.YtjoiflokekebkaaGreatDoor
open Go.RowKit

theorem idxN_app {α : Type} (p : α → Bool) (l : List α) : ∀ (i k : Nat), (∀ (j : Nat) (x : α), j < k → l[j]? = some x → p x = false) → k ≤ l.length → idxN p l i = idxN p (l.drop k) (i + k) := by
  intro i k
  induction k generalizing l i with
  | zero => intro _ _; rfl
  | succ k ih =>
    intro h hk
    cases l with
    | nil => simp at hk
    | cons a l =>
      have h0 := h 0 a (by omega) rfl
      rw [idxN, if_neg (by rw [h0]; decide), ih l (i + 1) (fun j x hj hx => h (j + 1) x (by omega) (by simpa using hx)) (by simpa using hk)]
      rw [List.drop_succ_cons]
      congr 1
      omega
theorem idx_here {α : Type} {p : α → Bool} {l : List α} {k : Nat} {x : α} (h : ∀ (j : Nat) (x : α), j < k → l[j]? = some x → p x = false) (hx : l[k]? = some x) (hp : p x = true) : idx p l = k := by
  obtain ⟨hk, he⟩ := List.getElem?_eq_some_iff.1 hx
  rw [idx, idxN_app p l 0 k h (by omega), List.drop_eq_getElem_cons hk, he, idxN, if_pos hp, Nat.zero_add]
theorem idx_none {α : Type} {p : α → Bool} {l : List α} (h : ∀ (j : Nat) (x : α), j < l.length → l[j]? = some x → p x = false) : idx p l = -1 := by
  rw [idx, idxN_app p l 0 l.length h (Nat.le_refl _), List.drop_length, idxN]
set_option maxRecDepth 100000 in
set_option maxHeartbeats 4000000 in
theorem idxStr_any (l : List Str) (u : Value) (p : Str → Bool) (fn : Nat) (cap : Array Value) (W : World) (hs : See W u (.row 75 4 (l.map Str.d)))
    (he : ∀ args w, (callFunc fn args).run Tryz.prog w = .ok (.enter fn args) w)
    (hf : ∀ (x : Str) (cs : List Value) (w : World), x ∈ l → Below W.heap.size W w → Sees w cs x.d → Calls Tryz.prog fn (#[.agg cs.toArray] ++ cap) w fun e w' => e = .returned (.bool (p x)) ∧ Below w.heap.size w w') :
    Calls Tryz.prog 132 #[u, .func (.func fn) #[] cap] W fun e w' => e = .returned (.int .i64 (idx p l)) ∧ Below W.heap.size W w' := by
  obtain ⟨A, c, rfl, hlc, hcm⟩ := hs.formOf
  have HS := Lib.hid hs
  have HF := Lib.hid hf
  have HN := Lib.hid he
  clear hs hf he
  go_enter Tryz.func132, Tryz.ntmps132
  go_wp2_with fail
  go_loopw [8] (fun v8 wr => ∃ i : Nat, v8 = .int .i64 i ∧ i ≤ l.length ∧ Hid (∀ (j : Nat) (x : Str), j < i → l[j]? = some x → p x = false) ∧ Hid (Below W.heap.size W wr)) (fun v8 _ => l.length - (intOf v8).toNat)
  case atStart => exact ⟨0, rfl, Nat.zero_le _, Lib.hid (fun j x hj => by omega), Lib.hid (Below.refl _ _)⟩
  case round =>
    obtain ⟨i, rfl, hi, hp, hb⟩ := hrel
    by_cases hlt : i < l.length
    · have htl : (i : Int) < (l.length : Int) := by omega
      obtain ⟨t, ht⟩ : ∃ t, l[i]? = some t := ⟨_, List.getElem?_eq_getElem hlt⟩
      obtain ⟨b, o, x0, x1, x2, x3, rfl, hse, c0, c1, c2, c3⟩ := (HS.out.bel hb.out).at4 ht (Str.d_len t)
      have HT := Lib.hid ht
      have HE := Lib.hid hse
      clear ht hse
      go_wp2_with fail
      rw [HN.out, Oper.upon_enter]
      refine (HF.out t _ wr (List.mem_of_getElem? HT.out) hb.out HE.out).mono ?_
      rintro e w2 ⟨rfl, hb2⟩
      have HB2 := Lib.hid (hb.out.trans (hb2.mono hb.out.size))
      clear hb2
      by_cases hpt : p t = true
      · have hidx : idx p l = i := idx_here hp.out HT.out hpt
        simp only [hpt]
        go_wp2_with fail
        go_ret
        exact ⟨by rw [hidx]; rfl, HB2.out⟩
      · have hpf : p t = false := by simpa using hpt
        have HP2 : Hid (∀ (j : Nat) (x : Str), j < i + 1 → l[j]? = some x → p x = false) := Lib.hid (fun j x hj hx => by
          by_cases hji : j = i
          · subst hji
            have := HT.out
            rw [hx] at this
            injection this with this
            rw [this]; exact hpf
          · exact hp.out j x (by omega) hx)
        simp only [hpf]
        go_wp2_with fail
        go_roundw
        case rel => exact ⟨i + 1, by go_num, by omega, HP2, HB2⟩
        case measure => simp [intOf]; omega
    · obtain rfl : i = l.length := by omega
      have hidx : idx p l = -1 := idx_none hp.out
      go_wp2_with fail
      go_ret
      exact ⟨by rw [hidx]; rfl, hb.out⟩
set_option maxRecDepth 100000 in
set_option maxHeartbeats 4000000 in
theorem idxEnm_any (l : List Enm) (u : Value) (p : Enm → Bool) (fn : Nat) (cap : Array Value) (W : World) (hs : See W u (.row 85 3 (l.map Enm.d)))
    (he : ∀ args w, (callFunc fn args).run Tryz.prog w = .ok (.enter fn args) w)
    (hf : ∀ (x : Enm) (cs : List Value) (w : World), x ∈ l → Below W.heap.size W w → Sees w cs x.d → Calls Tryz.prog fn (#[.agg cs.toArray] ++ cap) w fun e w' => e = .returned (.bool (p x)) ∧ Below w.heap.size w w') :
    Calls Tryz.prog 145 #[u, .func (.func fn) #[] cap] W fun e w' => e = .returned (.int .i64 (idx p l)) ∧ Below W.heap.size W w' := by
  obtain ⟨A, c, rfl, hlc, hcm⟩ := hs.formOf
  have HS := Lib.hid hs
  have HF := Lib.hid hf
  have HN := Lib.hid he
  clear hs hf he
  go_enter Tryz.func145, Tryz.ntmps145
  go_wp2_with fail
  go_loopw [8] (fun v8 wr => ∃ i : Nat, v8 = .int .i64 i ∧ i ≤ l.length ∧ Hid (∀ (j : Nat) (x : Enm), j < i → l[j]? = some x → p x = false) ∧ Hid (Below W.heap.size W wr)) (fun v8 _ => l.length - (intOf v8).toNat)
  case atStart => exact ⟨0, rfl, Nat.zero_le _, Lib.hid (fun j x hj => by omega), Lib.hid (Below.refl _ _)⟩
  case round =>
    obtain ⟨i, rfl, hi, hp, hb⟩ := hrel
    by_cases hlt : i < l.length
    · have htl : (i : Int) < (l.length : Int) := by omega
      obtain ⟨t, ht⟩ : ∃ t, l[i]? = some t := ⟨_, List.getElem?_eq_getElem hlt⟩
      obtain ⟨b, o, x0, x1, x2, rfl, hse, c0, c1, c2⟩ := (HS.out.bel hb.out).at3 ht (Enm.d_len t)
      have HT := Lib.hid ht
      have HE := Lib.hid hse
      clear ht hse
      go_wp2_with fail
      rw [HN.out, Oper.upon_enter]
      refine (HF.out t _ wr (List.mem_of_getElem? HT.out) hb.out HE.out).mono ?_
      rintro e w2 ⟨rfl, hb2⟩
      have HB2 := Lib.hid (hb.out.trans (hb2.mono hb.out.size))
      clear hb2
      by_cases hpt : p t = true
      · have hidx : idx p l = i := idx_here hp.out HT.out hpt
        simp only [hpt]
        go_wp2_with fail
        go_ret
        exact ⟨by rw [hidx]; rfl, HB2.out⟩
      · have hpf : p t = false := by simpa using hpt
        have HP2 : Hid (∀ (j : Nat) (x : Enm), j < i + 1 → l[j]? = some x → p x = false) := Lib.hid (fun j x hj hx => by
          by_cases hji : j = i
          · subst hji
            have := HT.out
            rw [hx] at this
            injection this with this
            rw [this]; exact hpf
          · exact hp.out j x (by omega) hx)
        simp only [hpf]
        go_wp2_with fail
        go_roundw
        case rel => exact ⟨i + 1, by go_num, by omega, HP2, HB2⟩
        case measure => simp [intOf]; omega
    · obtain rfl : i = l.length := by omega
      have hidx : idx p l = -1 := idx_none hp.out
      go_wp2_with fail
      go_ret
      exact ⟨by rw [hidx]; rfl, hb.out⟩
set_option maxRecDepth 100000 in
set_option maxHeartbeats 4000000 in
theorem idxFnc_any (l : List Fnc) (u : Value) (p : Fnc → Bool) (fn : Nat) (cap : Array Value) (W : World) (hs : See W u (.row 50 4 (l.map Fnc.d)))
    (he : ∀ args w, (callFunc fn args).run Tryz.prog w = .ok (.enter fn args) w)
    (hf : ∀ (x : Fnc) (cs : List Value) (w : World), x ∈ l → Below W.heap.size W w → Sees w cs x.d → Calls Tryz.prog fn (#[.agg cs.toArray] ++ cap) w fun e w' => e = .returned (.bool (p x)) ∧ Below w.heap.size w w') :
    Calls Tryz.prog 147 #[u, .func (.func fn) #[] cap] W fun e w' => e = .returned (.int .i64 (idx p l)) ∧ Below W.heap.size W w' := by
  obtain ⟨A, c, rfl, hlc, hcm⟩ := hs.formOf
  have HS := Lib.hid hs
  have HF := Lib.hid hf
  have HN := Lib.hid he
  clear hs hf he
  go_enter Tryz.func147, Tryz.ntmps147
  go_wp2_with fail
  go_loopw [8] (fun v8 wr => ∃ i : Nat, v8 = .int .i64 i ∧ i ≤ l.length ∧ Hid (∀ (j : Nat) (x : Fnc), j < i → l[j]? = some x → p x = false) ∧ Hid (Below W.heap.size W wr)) (fun v8 _ => l.length - (intOf v8).toNat)
  case atStart => exact ⟨0, rfl, Nat.zero_le _, Lib.hid (fun j x hj => by omega), Lib.hid (Below.refl _ _)⟩
  case round =>
    obtain ⟨i, rfl, hi, hp, hb⟩ := hrel
    by_cases hlt : i < l.length
    · have htl : (i : Int) < (l.length : Int) := by omega
      obtain ⟨t, ht⟩ : ∃ t, l[i]? = some t := ⟨_, List.getElem?_eq_getElem hlt⟩
      obtain ⟨b, o, x0, x1, x2, x3, rfl, hse, c0, c1, c2, c3⟩ := (HS.out.bel hb.out).at4 ht (Fnc.d_len t)
      have HT := Lib.hid ht
      have HE := Lib.hid hse
      clear ht hse
      go_wp2_with fail
      rw [HN.out, Oper.upon_enter]
      refine (HF.out t _ wr (List.mem_of_getElem? HT.out) hb.out HE.out).mono ?_
      rintro e w2 ⟨rfl, hb2⟩
      have HB2 := Lib.hid (hb.out.trans (hb2.mono hb.out.size))
      clear hb2
      by_cases hpt : p t = true
      · have hidx : idx p l = i := idx_here hp.out HT.out hpt
        simp only [hpt]
        go_wp2_with fail
        go_ret
        exact ⟨by rw [hidx]; rfl, HB2.out⟩
      · have hpf : p t = false := by simpa using hpt
        have HP2 : Hid (∀ (j : Nat) (x : Fnc), j < i + 1 → l[j]? = some x → p x = false) := Lib.hid (fun j x hj hx => by
          by_cases hji : j = i
          · subst hji
            have := HT.out
            rw [hx] at this
            injection this with this
            rw [this]; exact hpf
          · exact hp.out j x (by omega) hx)
        simp only [hpf]
        go_wp2_with fail
        go_roundw
        case rel => exact ⟨i + 1, by go_num, by omega, HP2, HB2⟩
        case measure => simp [intOf]; omega
    · obtain rfl : i = l.length := by omega
      have hidx : idx p l = -1 := idx_none hp.out
      go_wp2_with fail
      go_ret
      exact ⟨by rw [hidx]; rfl, hb.out⟩
set_option maxRecDepth 100000 in
set_option maxHeartbeats 4000000 in
theorem idxTy_any (l : List Ty) (u : Value) (p : Ty → Bool) (fn : Nat) (cap : Array Value) (W : World) (hs : See W u (.row 37 3 (l.map Ty.d)))
    (he : ∀ args w, (callFunc fn args).run Tryz.prog w = .ok (.enter fn args) w)
    (hf : ∀ (x : Ty) (cs : List Value) (w : World), x ∈ l → Below W.heap.size W w → Sees w cs x.d → Calls Tryz.prog fn (#[.agg cs.toArray] ++ cap) w fun e w' => e = .returned (.bool (p x)) ∧ Below w.heap.size w w') :
    Calls Tryz.prog 150 #[u, .func (.func fn) #[] cap] W fun e w' => e = .returned (.int .i64 (idx p l)) ∧ Below W.heap.size W w' := by
  obtain ⟨A, c, rfl, hlc, hcm⟩ := hs.formOf
  have HS := Lib.hid hs
  have HF := Lib.hid hf
  have HN := Lib.hid he
  clear hs hf he
  go_enter Tryz.func150, Tryz.ntmps150
  go_wp2_with fail
  go_loopw [8] (fun v8 wr => ∃ i : Nat, v8 = .int .i64 i ∧ i ≤ l.length ∧ Hid (∀ (j : Nat) (x : Ty), j < i → l[j]? = some x → p x = false) ∧ Hid (Below W.heap.size W wr)) (fun v8 _ => l.length - (intOf v8).toNat)
  case atStart => exact ⟨0, rfl, Nat.zero_le _, Lib.hid (fun j x hj => by omega), Lib.hid (Below.refl _ _)⟩
  case round =>
    obtain ⟨i, rfl, hi, hp, hb⟩ := hrel
    by_cases hlt : i < l.length
    · have htl : (i : Int) < (l.length : Int) := by omega
      obtain ⟨t, ht⟩ : ∃ t, l[i]? = some t := ⟨_, List.getElem?_eq_getElem hlt⟩
      obtain ⟨b, o, x0, x1, x2, rfl, hse, c0, c1, c2⟩ := (HS.out.bel hb.out).at3 ht (Ty.d_len t)
      have HT := Lib.hid ht
      have HE := Lib.hid hse
      clear ht hse
      go_wp2_with fail
      rw [HN.out, Oper.upon_enter]
      refine (HF.out t _ wr (List.mem_of_getElem? HT.out) hb.out HE.out).mono ?_
      rintro e w2 ⟨rfl, hb2⟩
      have HB2 := Lib.hid (hb.out.trans (hb2.mono hb.out.size))
      clear hb2
      by_cases hpt : p t = true
      · have hidx : idx p l = i := idx_here hp.out HT.out hpt
        simp only [hpt]
        go_wp2_with fail
        go_ret
        exact ⟨by rw [hidx]; rfl, HB2.out⟩
      · have hpf : p t = false := by simpa using hpt
        have HP2 : Hid (∀ (j : Nat) (x : Ty), j < i + 1 → l[j]? = some x → p x = false) := Lib.hid (fun j x hj hx => by
          by_cases hji : j = i
          · subst hji
            have := HT.out
            rw [hx] at this
            injection this with this
            rw [this]; exact hpf
          · exact hp.out j x (by omega) hx)
        simp only [hpf]
        go_wp2_with fail
        go_roundw
        case rel => exact ⟨i + 1, by go_num, by omega, HP2, HB2⟩
        case measure => simp [intOf]; omega
    · obtain rfl : i = l.length := by omega
      have hidx : idx p l = -1 := idx_none hp.out
      go_wp2_with fail
      go_ret
      exact ⟨by rw [hidx]; rfl, hb.out⟩
set_option maxRecDepth 100000 in
set_option maxHeartbeats 4000000 in
theorem idxFld_any (l : List Fld) (u : Value) (p : Fld → Bool) (fn : Nat) (cap : Array Value) (W : World) (hs : See W u (.row 86 4 (l.map Fld.d)))
    (he : ∀ args w, (callFunc fn args).run Tryz.prog w = .ok (.enter fn args) w)
    (hf : ∀ (x : Fld) (cs : List Value) (w : World), x ∈ l → Below W.heap.size W w → Sees w cs x.d → Calls Tryz.prog fn (#[.agg cs.toArray] ++ cap) w fun e w' => e = .returned (.bool (p x)) ∧ Below w.heap.size w w') :
    Calls Tryz.prog 154 #[u, .func (.func fn) #[] cap] W fun e w' => e = .returned (.int .i64 (idx p l)) ∧ Below W.heap.size W w' := by
  obtain ⟨A, c, rfl, hlc, hcm⟩ := hs.formOf
  have HS := Lib.hid hs
  have HF := Lib.hid hf
  have HN := Lib.hid he
  clear hs hf he
  go_enter Tryz.func154, Tryz.ntmps154
  go_wp2_with fail
  go_loopw [8] (fun v8 wr => ∃ i : Nat, v8 = .int .i64 i ∧ i ≤ l.length ∧ Hid (∀ (j : Nat) (x : Fld), j < i → l[j]? = some x → p x = false) ∧ Hid (Below W.heap.size W wr)) (fun v8 _ => l.length - (intOf v8).toNat)
  case atStart => exact ⟨0, rfl, Nat.zero_le _, Lib.hid (fun j x hj => by omega), Lib.hid (Below.refl _ _)⟩
  case round =>
    obtain ⟨i, rfl, hi, hp, hb⟩ := hrel
    by_cases hlt : i < l.length
    · have htl : (i : Int) < (l.length : Int) := by omega
      obtain ⟨t, ht⟩ : ∃ t, l[i]? = some t := ⟨_, List.getElem?_eq_getElem hlt⟩
      obtain ⟨b, o, x0, x1, x2, x3, rfl, hse, c0, c1, c2, c3⟩ := (HS.out.bel hb.out).at4 ht (Fld.d_len t)
      have HT := Lib.hid ht
      have HE := Lib.hid hse
      clear ht hse
      go_wp2_with fail
      rw [HN.out, Oper.upon_enter]
      refine (HF.out t _ wr (List.mem_of_getElem? HT.out) hb.out HE.out).mono ?_
      rintro e w2 ⟨rfl, hb2⟩
      have HB2 := Lib.hid (hb.out.trans (hb2.mono hb.out.size))
      clear hb2
      by_cases hpt : p t = true
      · have hidx : idx p l = i := idx_here hp.out HT.out hpt
        simp only [hpt]
        go_wp2_with fail
        go_ret
        exact ⟨by rw [hidx]; rfl, HB2.out⟩
      · have hpf : p t = false := by simpa using hpt
        have HP2 : Hid (∀ (j : Nat) (x : Fld), j < i + 1 → l[j]? = some x → p x = false) := Lib.hid (fun j x hj hx => by
          by_cases hji : j = i
          · subst hji
            have := HT.out
            rw [hx] at this
            injection this with this
            rw [this]; exact hpf
          · exact hp.out j x (by omega) hx)
        simp only [hpf]
        go_wp2_with fail
        go_roundw
        case rel => exact ⟨i + 1, by go_num, by omega, HP2, HB2⟩
        case measure => simp [intOf]; omega
    · obtain rfl : i = l.length := by omega
      have hidx : idx p l = -1 := idx_none hp.out
      go_wp2_with fail
      go_ret
      exact ⟨by rw [hidx]; rfl, hb.out⟩
end Go.Proofs.YtjoiflokekebkaaGreatDoor
end

section
/- Walks: StructOf, EnumOf, FnOf. -/
namespace Go.Proofs.YtjoiflokekebkaaGreatDoor
open Go.RowKit
set_option maxRecDepth 100000 in
set_option maxHeartbeats 4000000 in
theorem structIs_any (x : Str) (cs : List Value) (n : ByteArray) (m : Nat) (w : World) (hc : w.cell? ⟨m, 0, none⟩ = some (.string n)) (hs : Sees w cs x.d) :
    Calls Tryz.prog 133 (#[.agg cs.toArray] ++ #[.pointer (some ⟨m, 0, none⟩)]) w fun e w' => e = .returned (.bool (nmIs x.n n)) ∧ Below w.heap.size w w' := by
  obtain ⟨u, rfl, _⟩ := Str.open hs
  have hm := World.block_lt_of_cell? w _ hc
  have hb := (Below.refl w.heap.size w).alloc (Nat.le_refl _) (.cells #[.string x.n, .bool x.drop, u, .int .i64 x.at_] 75)
  have hc2 : (w.alloc (.cells #[.string x.n, .bool x.drop, u, .int .i64 x.at_] 75)).cell? ⟨m, 0, none⟩ = some (.string n) := (World.cell?_of_block (hb.block m hm)).trans hc
  have HB := Lib.hid hb
  clear hb hc hs hm
  simp only [List.append_toArray, List.cons_append, List.nil_append]
  go_enter Tryz.func133, Tryz.ntmps133
  go_wp2_with fail
  go_ret
  exact ⟨rfl, HB.out⟩
set_option maxRecDepth 100000 in
set_option maxHeartbeats 4000000 in
theorem structOf_any (s : Src) (cs : List Value) (n : ByteArray) (W : World) (hs : Sees W cs s.d) :
    Calls Tryz.prog 72 #[.agg cs.toArray, .string n] W fun e w' => e = .returned (.int .i64 (structOf s n)) ∧ Below W.heap.size W w' := by
  obtain ⟨u, v, z, rfl, hu, hv, hz⟩ := Src.open hs
  have hb := ((Below.refl W.heap.size W).alloc (Nat.le_refl _) (.cells #[u, v, z] 26)).alloc (by simp) (.cells #[.string n] 9)
  have HS := Lib.hid (hu.bel hb)
  have HB := Lib.hid hb
  clear hb hs hu hv hz
  go_enter Tryz.func72, Tryz.ntmps72
  go_wp2_with fail
  have hc0 : ((W.alloc (.cells #[u, v, z] 26)).alloc (.cells #[.string n] 9)).cell? ⟨W.heap.size + 1, 0, none⟩ = some (.string n) := by simp [go_sem]
  refine (idxStr_any s.ss u (fun x => nmIs x.n n) 133 #[.pointer (some ⟨W.heap.size + 1, 0, none⟩)] _ HS.out (enters_of Tryz.func133 (by kernel_rfl) rfl)
    (fun x cs w hx hbw hse => structIs_any x cs n _ w ((World.cell?_of_block (hbw.block _ (by simp))).trans hc0) hse)).mono ?_
  rintro e w2 ⟨rfl, hb2⟩
  have HB2 := Lib.hid (HB.out.trans (hb2.mono HB.out.size))
  clear hb2
  go_wp2_with fail
  go_ret
  exact ⟨rfl, HB2.out⟩
set_option maxRecDepth 100000 in
set_option maxHeartbeats 4000000 in
theorem enumIs_any (x : Enm) (cs : List Value) (n : ByteArray) (m : Nat) (w : World) (hc : w.cell? ⟨m, 0, none⟩ = some (.string n)) (hs : Sees w cs x.d) :
    Calls Tryz.prog 146 (#[.agg cs.toArray] ++ #[.pointer (some ⟨m, 0, none⟩)]) w fun e w' => e = .returned (.bool (nmIs x.n n)) ∧ Below w.heap.size w w' := by
  obtain ⟨u, rfl, _⟩ := Enm.open hs
  have hm := World.block_lt_of_cell? w _ hc
  have hb := (Below.refl w.heap.size w).alloc (Nat.le_refl _) (.cells #[.string x.n, u, .int .i64 x.at_] 85)
  have hc2 : (w.alloc (.cells #[.string x.n, u, .int .i64 x.at_] 85)).cell? ⟨m, 0, none⟩ = some (.string n) := (World.cell?_of_block (hb.block m hm)).trans hc
  have HB := Lib.hid hb
  clear hb hc hs hm
  simp only [List.append_toArray, List.cons_append, List.nil_append]
  go_enter Tryz.func146, Tryz.ntmps146
  go_wp2_with fail
  go_ret
  exact ⟨rfl, HB.out⟩
set_option maxRecDepth 100000 in
set_option maxHeartbeats 4000000 in
theorem enumOf_any (s : Src) (cs : List Value) (n : ByteArray) (W : World) (hs : Sees W cs s.d) :
    Calls Tryz.prog 83 #[.agg cs.toArray, .string n] W fun e w' => e = .returned (.int .i64 (enumOf s n)) ∧ Below W.heap.size W w' := by
  obtain ⟨u, v, z, rfl, hu, hv, hz⟩ := Src.open hs
  have hb := ((Below.refl W.heap.size W).alloc (Nat.le_refl _) (.cells #[u, v, z] 26)).alloc (by simp) (.cells #[.string n] 9)
  have HS := Lib.hid (hv.bel hb)
  have HB := Lib.hid hb
  clear hb hs hu hv hz
  go_enter Tryz.func83, Tryz.ntmps83
  go_wp2_with fail
  have hc0 : ((W.alloc (.cells #[u, v, z] 26)).alloc (.cells #[.string n] 9)).cell? ⟨W.heap.size + 1, 0, none⟩ = some (.string n) := by simp [go_sem]
  refine (idxEnm_any s.es v (fun x => nmIs x.n n) 146 #[.pointer (some ⟨W.heap.size + 1, 0, none⟩)] _ HS.out (enters_of Tryz.func146 (by kernel_rfl) rfl)
    (fun x cs w hx hbw hse => enumIs_any x cs n _ w ((World.cell?_of_block (hbw.block _ (by simp))).trans hc0) hse)).mono ?_
  rintro e w2 ⟨rfl, hb2⟩
  have HB2 := Lib.hid (HB.out.trans (hb2.mono HB.out.size))
  clear hb2
  go_wp2_with fail
  go_ret
  exact ⟨rfl, HB2.out⟩
set_option maxRecDepth 100000 in
set_option maxHeartbeats 4000000 in
theorem fnIs_any (x : Fnc) (cs : List Value) (n : ByteArray) (m : Nat) (w : World) (hc : w.cell? ⟨m, 0, none⟩ = some (.string n)) (hs : Sees w cs x.d) :
    Calls Tryz.prog 148 (#[.agg cs.toArray] ++ #[.pointer (some ⟨m, 0, none⟩)]) w fun e w' => e = .returned (.bool (nmIs x.n n)) ∧ Below w.heap.size w w' := by
  obtain ⟨u, v, rfl, _⟩ := Fnc.open hs
  have hm := World.block_lt_of_cell? w _ hc
  have hb := (Below.refl w.heap.size w).alloc (Nat.le_refl _) (.cells #[.string x.n, u, v, .int .i64 x.at_] 50)
  have hc2 : (w.alloc (.cells #[.string x.n, u, v, .int .i64 x.at_] 50)).cell? ⟨m, 0, none⟩ = some (.string n) := (World.cell?_of_block (hb.block m hm)).trans hc
  have HB := Lib.hid hb
  clear hb hc hs hm
  simp only [List.append_toArray, List.cons_append, List.nil_append]
  go_enter Tryz.func148, Tryz.ntmps148
  go_wp2_with fail
  go_ret
  exact ⟨rfl, HB.out⟩
set_option maxRecDepth 100000 in
set_option maxHeartbeats 4000000 in
theorem fnOf_any (s : Src) (cs : List Value) (n : ByteArray) (W : World) (hs : Sees W cs s.d) :
    Calls Tryz.prog 84 #[.agg cs.toArray, .string n] W fun e w' => e = .returned (.int .i64 (fnOf s n)) ∧ Below W.heap.size W w' := by
  obtain ⟨u, v, z, rfl, hu, hv, hz⟩ := Src.open hs
  have hb := ((Below.refl W.heap.size W).alloc (Nat.le_refl _) (.cells #[u, v, z] 26)).alloc (by simp) (.cells #[.string n] 9)
  have HS := Lib.hid (hz.bel hb)
  have HB := Lib.hid hb
  clear hb hs hu hv hz
  go_enter Tryz.func84, Tryz.ntmps84
  go_wp2_with fail
  have hc0 : ((W.alloc (.cells #[u, v, z] 26)).alloc (.cells #[.string n] 9)).cell? ⟨W.heap.size + 1, 0, none⟩ = some (.string n) := by simp [go_sem]
  refine (idxFnc_any s.fs z (fun x => nmIs x.n n) 148 #[.pointer (some ⟨W.heap.size + 1, 0, none⟩)] _ HS.out (enters_of Tryz.func148 (by kernel_rfl) rfl)
    (fun x cs w hx hbw hse => fnIs_any x cs n _ w ((World.cell?_of_block (hbw.block _ (by simp))).trans hc0) hse)).mono ?_
  rintro e w2 ⟨rfl, hb2⟩
  have HB2 := Lib.hid (HB.out.trans (hb2.mono HB.out.size))
  clear hb2
  go_wp2_with fail
  go_ret
  exact ⟨rfl, HB2.out⟩
end Go.Proofs.YtjoiflokekebkaaGreatDoor
end

section
/- Walks: Holds, Copies, itemOf. -/
namespace Go.Proofs.YtjoiflokekebkaaGreatDoor
open Go.RowKit

mutual
def tySz : Ty → Nat
  | .mk _ _ l => tySzL l + 1
def tySzL : List Ty → Nat
  | [] => 0
  | t :: r => tySz t + tySzL r
end
theorem tySz_mem {l : List Ty} {t : Ty} (h : t ∈ l) : tySz t ≤ tySzL l := by
  induction l with
  | nil => cases h
  | cons a r ih =>
    rw [tySzL]
    rcases List.mem_cons.1 h with rfl | h
    · omega
    · have := ih h; omega
theorem tySz_l (t : Ty) : tySz t = tySzL t.l + 1 := by cases t; rfl
theorem idx_any {α : Type} (p : α → Bool) (l : List α) : decide (0 ≤ idx p l) = l.any p := by
  have key : ∀ (l : List α) (i : Nat), decide (0 ≤ idxN p l i) = l.any p := by
    intro l
    induction l with
    | nil => intro i; simp [idxN]
    | cons a r ih =>
      intro i
      rw [idxN, List.any_cons]
      by_cases h : p a = true
      · rw [if_pos h, h]; simp
      · rw [if_neg h, ih]
        have : p a = false := by simpa using h
        rw [this]; simp
  exact key l 0
theorem holdsL_any (l : List Ty) : holdsL l = l.any holds := by
  induction l with
  | nil => rfl
  | cons a r ih => rw [holdsL, List.any_cons, ih]
theorem holds_eq (t : Ty) : holds t = (decide (t.k = 5) || decide (t.k = 6) || holdsL t.l) := by cases t; rw [holds]; rfl
set_option maxRecDepth 100000 in
set_option maxHeartbeats 4000000 in
theorem containsTy_any (l : List Ty) (u : Value) (p : Ty → Bool) (fn : Nat) (cap : Array Value) (W : World) (hs : See W u (.row 37 3 (l.map Ty.d)))
    (he : ∀ args w, (callFunc fn args).run Tryz.prog w = .ok (.enter fn args) w)
    (hf : ∀ (x : Ty) (cs : List Value) (w : World), x ∈ l → Below W.heap.size W w → Sees w cs x.d → Calls Tryz.prog fn (#[.agg cs.toArray] ++ cap) w fun e w' => e = .returned (.bool (p x)) ∧ Below w.heap.size w w') :
    Calls Tryz.prog 88 #[u, .func (.func fn) #[] cap] W fun e w' => e = .returned (.bool (l.any p)) ∧ Below W.heap.size W w' := by
  have HI := Lib.hid (idxTy_any l u p fn cap W hs he hf)
  have HA := Lib.hid (idx_any p l)
  clear hs he hf
  go_enter Tryz.func88, Tryz.ntmps88
  go_wp2_with fail
  refine HI.out.mono ?_
  rintro e w2 ⟨rfl, hb2⟩
  have HB2 := Lib.hid hb2
  clear hb2
  go_wp2_with fail
  go_ret
  exact ⟨by rw [← HA.out]; rfl, HB2.out⟩
set_option maxRecDepth 100000 in
set_option maxHeartbeats 4000000 in
theorem holds_fuel : ∀ (m : Nat) (t : Ty), tySz t ≤ m → ∀ (cs : List Value) (W : World), Sees W cs t.d → Calls Tryz.prog 35 #[.agg cs.toArray] W fun e w' => e = .returned (.bool (holds t)) ∧ Below W.heap.size W w' := by
  intro m
  induction m with
  | zero => intro t ht; rw [tySz_l] at ht; omega
  | succ m ih =>
    intro t ht cs W hs
    rw [tySz_l] at ht
    obtain ⟨u, rfl, hu⟩ := Ty.open hs
    have HS := fun o => Lib.hid (hu.bel (bel_box W o))
    have HI := Lib.hid ih
    clear hs hu ih
    have hh := holds_eq t
    rw [holdsL_any] at hh
    by_cases h5 : t.k = 5
    · have HH : holds t = true := by rw [hh, h5]; simp
      clear hh
      go_enter Tryz.func35, Tryz.ntmps35
      go_wp2_with fail
      go_ret
      exact ⟨by rw [HH]; rfl, bel_box _ _⟩
    by_cases h6 : t.k = 6
    · have HH : holds t = true := by rw [hh, h6]; simp
      clear hh
      go_enter Tryz.func35, Tryz.ntmps35
      go_wp2_with fail
      go_ret
      exact ⟨by rw [HH]; rfl, bel_box _ _⟩
    rw [decide_eq_false h5, decide_eq_false h6] at hh
    have HH : Hid (holds t = t.l.any holds) := Lib.hid (by rw [hh]; simp)
    clear hh
    go_enter Tryz.func35, Tryz.ntmps35
    go_wp2_with fail
    refine (containsTy_any t.l u holds 35 #[] _ (HS _).out (enters_of Tryz.func35 (by kernel_rfl) rfl) (fun x cs w hx _ hse => by
      have := tySz_mem hx
      have h := HI.out x (by omega) cs w hse
      simpa using h)).mono ?_
    rintro e w2 ⟨rfl, hb2⟩
    have HB2 := Lib.hid (bel_on (bel_box W _) hb2)
    clear hb2
    go_wp2_with fail
    go_ret
    exact ⟨by rw [HH.out]; rfl, HB2.out⟩
theorem holds_any (t : Ty) (cs : List Value) (W : World) (hs : Sees W cs t.d) : Calls Tryz.prog 35 #[.agg cs.toArray] W fun e w' => e = .returned (.bool (holds t)) ∧ Below W.heap.size W w' :=
  holds_fuel _ t (Nat.le_refl _) cs W hs
set_option maxRecDepth 100000 in
set_option maxHeartbeats 4000000 in
theorem copies_any (t : Ty) (cs : List Value) (W : World) (hs : Sees W cs t.d) : Calls Tryz.prog 36 #[.agg cs.toArray] W fun e w' => e = .returned (.bool (copies t)) ∧ Below W.heap.size W w' := by
  obtain ⟨u, rfl, hu⟩ := Ty.open hs
  clear hs hu
  by_cases h0 : t.k = 0
  · have HH : copies t = true := by rw [copies, h0]; rfl
    go_enter Tryz.func36, Tryz.ntmps36
    go_wp2_with fail
    go_ret
    exact ⟨by rw [HH]; rfl, bel_box _ _⟩
  by_cases h1 : t.k = 1
  · have HH : copies t = true := by rw [copies, h1]; rfl
    go_enter Tryz.func36, Tryz.ntmps36
    go_wp2_with fail
    go_ret
    exact ⟨by rw [HH]; rfl, bel_box _ _⟩
  by_cases h5 : t.k = 5
  · have HH : copies t = true := by rw [copies, h5]; rfl
    go_enter Tryz.func36, Tryz.ntmps36
    go_wp2_with fail
    go_ret
    exact ⟨by rw [HH]; rfl, bel_box _ _⟩
  have HH : copies t = false := by rw [copies, decide_eq_false h0, decide_eq_false h1, decide_eq_false h5]; rfl
  go_enter Tryz.func36, Tryz.ntmps36
  go_wp2_with fail
  go_ret
  exact ⟨by rw [HH]; rfl, bel_box _ _⟩
end Go.Proofs.YtjoiflokekebkaaGreatDoor
end
