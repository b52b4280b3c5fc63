/- Texts of this claim in one file: H32, H35, H34, H34b. -/
import Derived.Test.YthgnbeeobhfeaaaK10
import Derived.Test.YthgnbeeobhfeaaaK11
set_option linter.all false
section
/- Plain laws: what holds is so on each way. -/
namespace Go.Proofs.Ythgnbeeobhfeaaa.T

theorem runB_snoc {cs : List Ch} {b : Int} {j : Nat} : ∀ (r k : Nat) (x : Bool), runB cs b j k (r + 1) x = stepB cs b ((k + r : Nat) : Int) j (runB cs b j k r x)
  | 0, k, x => rfl
  | r + 1, k, x => by
    rw [runB, runB_snoc r (k + 1), runB, show k + 1 + r = k + (r + 1) by omega]
/-- Flags on a way: no more than on one, no less than on all. -/
structure WayInv (bs : List Bk) (cs : List Ch) (start : List Bool) (N : Nat) (i k : Nat) (now : List Bool) : Prop where
  len : now.length = N
  some_ : ∀ (j : Nat), now[j]? = some true → runB cs (i : Int) j 0 k (inV bs start cs false j i) = true
  all_ : ∀ (j : Nat), j < N → runB cs (i : Int) j 0 k (inV bs start cs true j i) = true → now[j]? = some true
  rch : Rch bs i
theorem WayInv.begin {bs : List Bk} {cs : List Ch} {start : List Bool} {N : Nat} (h : 0 < bs.length) : WayInv bs cs start N 0 0 (firstL N start) := by
  refine ⟨by simp [firstL], fun j hj => ?_, fun j hj hx => ?_, .zero h⟩
  · have hlt : j < N := by have := (List.getElem?_eq_some_iff.1 hj).1; simpa [firstL] using this
    simp only [firstL, List.getElem?_map, List.getElem?_range hlt, Option.map_some, Option.some.injEq] at hj
    show inV bs start cs false j 0 = true
    have : mvV false (fun m => m = 0 ∧ start.getD j false ≠ false) (blockB bs cs j) (fun p m => Rch bs p ∧ edge bs p m = true) 0 ≠ false := mvV_ne.2 (.start ⟨rfl, by rw [hj]; decide⟩)
    unfold inV
    simpa using this
  · simp only [firstL, List.getElem?_map, List.getElem?_range hj, Option.map_some, Option.some.injEq]
    have hx' : inV bs start cs true j 0 = true := hx
    cases hs : start.getD j false with
    | true => rfl
    | false =>
      exfalso
      have : mvV true (fun m => m = 0 ∧ start.getD j false ≠ true) (blockB bs cs j) (fun p m => Rch bs p ∧ edge bs p m = true) 0 ≠ true := mvV_ne.2 (.start ⟨rfl, by rw [hs]; decide⟩)
      exact this hx'
theorem WayInv.step {bs : List Bk} {cs : List Ch} {start : List Bool} {N i k : Nat} {now : List Bool} (h : WayInv bs cs start N i k now) : WayInv bs cs start N i (k + 1) (stepL cs i k now) := by
  refine ⟨(stepL_length _ _ _ _).trans h.len, fun j hj => ?_, fun j hj hx => ?_, h.rch⟩
  · have hlt : j < now.length := by have := (List.getElem?_eq_some_iff.1 hj).1; rwa [stepL_length] at this
    obtain ⟨a, ha⟩ : ∃ a, now[j]? = some a := ⟨_, List.getElem?_eq_getElem hlt⟩
    rw [stepL_get ha, Option.some.injEq] at hj
    rw [runB_snoc, Nat.zero_add]
    exact stepB_mono (fun q => h.some_ j (by rw [ha, q])) hj
  · obtain ⟨a, ha⟩ : ∃ a, now[j]? = some a := ⟨_, List.getElem?_eq_getElem (by rw [h.len]; exact hj)⟩
    rw [runB_snoc, Nat.zero_add] at hx
    rw [stepL_get ha]
    congr 1
    refine stepB_mono (fun q => ?_) hx
    have := h.all_ j hj q
    rw [ha] at this
    exact Option.some.inj this
theorem WayInv.next {bs : List Bk} {cs : List Ch} {start : List Bool} {N i m : Nat} {now : List Bool} (h : WayInv bs cs start N i (insN bs i + 1) now) (he : edge bs i m = true) : WayInv bs cs start N m 0 now := by
  refine ⟨h.len, fun j hj => ?_, fun j hj hx => ?_, .step h.rch he⟩
  · have h1 := h.some_ j hj
    have h2 : mvV false (fun m => m = 0 ∧ start.getD j false ≠ false) (blockB bs cs j) (fun p m => Rch bs p ∧ edge bs p m = true) m ≠ false := mvV_ne.2 (Mv.edge (p := i) ⟨h.rch, he⟩ (by
      show blockB bs cs j i (inV bs start cs false j i) ≠ false
      have : blockB bs cs j i (inV bs start cs false j i) = true := h1
      rw [this]; decide))
    show inV bs start cs false j m = true
    unfold inV
    simpa using h2
  · refine h.all_ j hj ?_
    have hx' : mvV true (fun m => m = 0 ∧ start.getD j false ≠ true) (blockB bs cs j) (fun p m => Rch bs p ∧ edge bs p m = true) m = true := hx
    show blockB bs cs j i (inV bs start cs true j i) = true
    cases hq : blockB bs cs j i (inV bs start cs true j i) with
    | true => rfl
    | false =>
      exfalso
      refine mvV_ne.2 (Mv.edge (p := i) ⟨h.rch, he⟩ ?_) hx'
      show blockB bs cs j i (inV bs start cs true j i) ≠ true
      rw [hq]; decide
/-- What stands at a place. -/
theorem WayInv.at_ {bs : List Bk} {cs : List Ch} {start : List Bool} {N i k : Nat} {now : List Bool} (h : WayInv bs cs start N i k now) {X Y : List (List Bool)} {x y : List Bool} (hX : (flowL bs N start cs false)[i]? = some X) (hY : (flowL bs N start cs true)[i]? = some Y) (hx : X[k]? = some x) (hy : Y[k]? = some y) {j : Nat} {a b c : Bool} (ha : now[j]? = some a) (hb : x[j]? = some b) (hc : y[j]? = some c) :
    (a && !b) = false ∧ (c && !a) = false := by
  have hlt : j < N := by have := (List.getElem?_eq_some_iff.1 ha).1; rwa [h.len] at this
  have h1 := (flowL_flag hX hx).2 j hlt
  have h2 := (flowL_flag hY hy).2 j hlt
  rw [hb, Option.some.injEq] at h1
  rw [hc, Option.some.injEq] at h2
  refine ⟨?_, ?_⟩
  · cases a with
    | false => rfl
    | true => rw [h1, h.some_ j ha]; rfl
  · cases c with
    | false => rfl
    | true =>
      have := h.all_ j hlt h2.symm
      rw [ha, Option.some.injEq] at this
      rw [this]; rfl
theorem flow_row {bs : List Bk} {cs : List Ch} {start : List Bool} {N i : Nat} {e : Bool} {X : List (List Bool)} (hr : Rch bs i) (hX : (flowL bs N start cs e)[i]? = some X) : X.length = insN bs i + 2 := by
  obtain ⟨_, rfl⟩ := flowL_get hX
  rw [if_pos (rchB_iff.2 hr), statesL_length]
end Go.Proofs.Ythgnbeeobhfeaaa.T
end

section
/- Walks: what a step makes of flags (the law's own function). -/
namespace Go.Proofs.Ythgnbeeobhfeaaa.T
open Go.RowKit Go.Shelf Go.Proofs.YthgnbeeobhfeaaaW.PrintWords Go.Proofs.YthgnbeeobhfeaaaW.PrintLast

def afK (b a : Int) (cs : List S66) (now : List Bool) : List Bool := (hits (chsOf cs) b a).foldl (fun s c => putL s c.kil false) now
def afG (b a : Int) (cs : List S66) (now : List Bool) : List Bool := (hits (chsOf cs) b a).foldl (fun s c => putL s c.gen true) now
theorem afG_afK (b a : Int) (cs : List S66) (now : List Bool) : afG b a cs (afK b a cs now) = stepL (chsOf cs) b a now := rfl
theorem afK_snoc (b a : Int) (cs : List S66) (c : S66) (now : List Bool) : afK b a (cs ++ [c]) now = if c.f0 = b ∧ c.f1 = a then putL (afK b a cs now) c.f3 false else afK b a cs now := by
  unfold afK hits chsOf
  rw [List.map_append, List.filter_append, List.foldl_append]
  by_cases h0 : c.f0 = b <;> by_cases h1 : c.f1 = a <;> simp [h0, h1]
theorem afG_snoc (b a : Int) (cs : List S66) (c : S66) (now : List Bool) : afG b a (cs ++ [c]) now = if c.f0 = b ∧ c.f1 = a then putL (afG b a cs now) c.f2 true else afG b a cs now := by
  unfold afG hits chsOf
  rw [List.map_append, List.filter_append, List.foldl_append]
  by_cases h0 : c.f0 = b <;> by_cases h1 : c.f1 = a <;> simp [h0, h1]
theorem afK_length (b a : Int) (cs : List S66) (now : List Bool) : (afK b a cs now).length = now.length := foldGen_length _ _ _ _
theorem afG_length (b a : Int) (cs : List S66) (now : List Bool) : (afG b a cs now).length = now.length := foldGen_length _ _ _ _
theorem putL_snoc (now : List Bool) (l : List Int) (z : Int) (v : Bool) : putL now (l ++ [z]) v = if 0 ≤ z ∧ z < (now.length : Int) then (putL now l v).set z.toNat v else putL now l v := by
  have h : putL now (l ++ [z]) v = if 0 ≤ z ∧ z < ((putL now l v).length : Int) then (putL now l v).set z.toNat v else putL now l v := by
    unfold putL
    rw [List.foldl_append]
    rfl
  rwa [putL_length] at h
theorem fewC_len2 {l : List S66} (h : fewC (chsOf l) = true) : l.length ≤ 1000 := by
  simp only [fewC, Bool.and_eq_true, decide_eq_true_eq] at h
  have := h.1
  simp only [chsOf, List.length_map] at this
  omega
theorem OB.at3 {W : World} {B : Nat} {A : Option Addr} {n c : Nat} {xs : List Bool} (h : OB W B (.slice A n c) xs) {i : Nat} {b : Bool} (hi : xs[i]? = some b) : ∃ g, A = some ⟨g, 0, none⟩ ∧ W.cell? ⟨g, i, none⟩ = some (.bool b) := by
  obtain ⟨g, c', h1, h2⟩ := h.at_ hi
  injection h1 with h1
  exact ⟨g, h1, h2⟩
theorem take_next {α : Type} {l : List α} {t : Nat} {z : α} (h : l[t]? = some z) : l.take (t + 1) = l.take t ++ [z] := by
  rw [List.take_succ, h]
  rfl

set_option maxRecDepth 100000 in
set_option maxHeartbeats 8000000 in
theorem after_any (A : Option Addr) (c0 : Nat) (now : List Bool) (Al : Option Addr) (cl : Nat) (cs : List S66) (b a : Int) (w : World) (hA : Kd.bool.C w A now.length now) (hC : Kd.C k66 w Al cs.length cs) (hn : now.length ≤ 1000000) :
    Calls Try.prog 22 #[.slice A now.length c0, .slice Al cs.length cl, .int .i64 b, .int .i64 a] w fun e w' => ∃ v, e = .returned v ∧ OB w' w.heap.size v (stepL (chsOf cs) b a now) ∧ Below w.heap.size w w' := by
  have hlc : cs.length ≤ 9223372036854775807 := hC.2.1
  have HC := Lib.hid hC
  have HA := Lib.hid hA
  have HB0 := Lib.hid (Below.refl w.heap.size w)
  clear hC hA
  obtain ⟨n0, hn0⟩ : ∃ n0, n0 = now.length := ⟨_, rfl⟩
  go_enter Try.func22, Try.ntmps22
  go_wp2_with (first | (at_builtin; refine Kd.R_append_rows Kd.bool (w0 := w) w.heap.size rfl (.tmp 14) (.tmp 15) 26 4 (.bool false) 1 rfl Try.underlying26 info4 rfl (by decide) (by omega) (.slice none 0 0) ([] : List Bool) now _ _ _ (fun _ => True) (fun _ => False) rfl rfl ?aO ?aR (fun _ _ h => h) (fun _ h => h.elim) ?aF ?aB ?aS ?aL ?_; (case aR => exact HA.out); (case aB => exact HB0.out); (case aF => exact (fun _ _ => trivial)); (case aO => exact Kd.R_nil _ _ _ _ (fun _ => True)); (case aS => exact Nat.le_refl _); (case aL => simp; omega); intro v w6 ho hb hg hat; have HO : Hid (OB w6 w.heap.size v (afK b a (cs.take 0) now)) := Lib.hid (Kd.own_of_R ho); have HB := Lib.hid hb; clear ho hb hg hat))
  obtain ⟨Ao, co, rfl⟩ : ∃ A c, v = .slice A n0 c := by
    obtain ⟨A, c, h⟩ := own_slice HO.out
    exact ⟨A, c, by rw [h, afK_length, hn0]⟩
  have hn0' : n0 ≤ 1000000 := by omega
  have HN0 := Lib.hid hn0
  clear hn0 HB0
  go_loopw [10] (fun u wr => ∃ i : Nat, u = .int .i64 i ∧ i ≤ cs.length ∧ Hid (OB wr w.heap.size (.slice Ao n0 co) (afK b a (cs.take i) now)) ∧ Hid (Below w.heap.size w wr)) (fun u _ => cs.length - (intOf u).toNat)
  case atStart => exact ⟨0, rfl, Nat.zero_le _, HO, HB⟩
  case round =>
    clear HO HB
    obtain ⟨i, rfl, hi, HO, HB⟩ := hrel
    by_cases hlt : i < cs.length
    · have hci : cs[i]? = some (rd_T66 cs i) := by simp [rd_T66, List.getElem?_eq_getElem hlt, List.getD_eq_getElem?_getD]
      obtain ⟨ad, A2, d2, A3, d3, rfl, hx0, hx1, hx2, hx3, hl2, hr2, hl3, hr3⟩ := at_T66 HC.out (i : Int) (by omega) (by omega)
      rw [Int.toNat_natCast] at hx0 hx1 hx2 hx3
      have HR := Lib.hid hr3
      have HTS := Lib.hid (take_next hci)
      clear hci hr2 hr3
      obtain ⟨cc, hcc⟩ : ∃ cc, cc = rd_T66 cs i := ⟨_, rfl⟩
      rw [← hcc] at hx0 hx1 hx2 hx3 hl2 hl3 HR HTS
      have hsz : cc.f3.length ≤ 9223372036854775807 := HR.out.2.1
      obtain ⟨s, hs⟩ : ∃ s, s = afK b a (cs.take i) now := ⟨_, rfl⟩
      rw [← hs] at HO
      have hsl : s.length = n0 := by rw [hs, afK_length, HN0.out]
      have hsn := afK_snoc b a (cs.take i) cc now
      rw [← hs] at hsn
      have HSN := Lib.hid hsn
      have HSL := Lib.hid hsl
      have HX0 := Lib.hid hx0
      have HX1 := Lib.hid hx1
      have HX3 := Lib.hid hx3
      clear hs hsl hsn hcc hx0 hx1 hx2 hx3 hl2 hl3
      have y0 := pw_cell_below HB.out HX0.out
      have y1 := pw_cell_below HB.out HX1.out
      have y3 := pw_cell_below HB.out HX3.out
      by_cases e1 : cc.f0 = b
      · by_cases e2 : cc.f1 = a
        · have d1 : (cc.f0 == b) = true := by simpa using e1
          have d2' : (cc.f1 == a) = true := by simpa using e2
          have HSN2 : Hid (afK b a (cs.take (i + 1)) now = putL s cc.f3 false) := Lib.hid (by rw [HTS.out, HSN.out, if_pos ⟨e1, e2⟩])
          clear HSN HTS
          go_wp2_with fail
          go_loopw [11] (fun u wr2 => ∃ t : Nat, u = .int .i64 t ∧ t ≤ cc.f3.length ∧ Hid (OB wr2 w.heap.size (.slice Ao n0 co) (putL s (cc.f3.take t) false)) ∧ Hid (Below w.heap.size w wr2)) (fun u _ => cc.f3.length - (intOf u).toNat)
          case atStart => exact ⟨0, rfl, Nat.zero_le _, HO, HB⟩
          case round =>
            clear HO HB y0 y1 y3
            obtain ⟨t, rfl, ht, HO, HB⟩ := hrel
            have y0 := pw_cell_below HB.out HX0.out
            have y1 := pw_cell_below HB.out HX1.out
            have y3 := pw_cell_below HB.out HX3.out
            by_cases hlt2 : t < cc.f3.length
            · obtain ⟨z, hz⟩ : ∃ z, cc.f3[t]? = some z := ⟨_, List.getElem?_eq_getElem hlt2⟩
              obtain ⟨az, haz, hzc⟩ := Kd.at_int (Kd.C_below HR.out HB.out) (t : Int) (by omega) (by omega)
              rw [rd_nat, Int.toNat_natCast, show cc.f3.getD t 0 = z by rw [List.getD_eq_getElem?_getD, hz]; rfl] at hzc
              subst haz
              have hpn := putL_snoc s (cc.f3.take t) z false
              rw [← take_next hz, HSL.out] at hpn
              have HPN := Lib.hid hpn
              clear hz hpn
              by_cases c0 : 0 ≤ z
              · by_cases c1 : z < (n0 : Int)
                · obtain ⟨Z, rfl⟩ := Int.eq_ofNat_of_zero_le c0
                  have hPl : (putL s (cc.f3.take t) false).length = n0 := by rw [putL_length, HSL.out]
                  obtain ⟨q, hq⟩ : ∃ q, (putL s (cc.f3.take t) false)[Z]? = some q := ⟨_, List.getElem?_eq_getElem (by omega)⟩
                  obtain ⟨g, rfl, hg⟩ := OB.at3 HO.out hq
                  have hoe : wr.ownsRow w.heap.size 4 1 (.slice (some ⟨g, 0, none⟩) n0 co) n0 (encs Value.bool (putL s (cc.f3.take t) false)) := by
                    have h := HO.out
                    unfold OB at h
                    rwa [hPl] at h
                  obtain ⟨hst, hgr⟩ := own_store_of (enc := Value.bool) hoe (Z : Int) false
                  obtain ⟨hcl', hfz⟩ := own_at_of (enc := Value.bool) (d := false) hoe (Z : Int) (by omega) (by omega)
                  rw [Int.toNat_natCast] at hst hgr hcl' hfz
                  have HST : Hid (OB (wr.setCell ⟨g, Z, none⟩ (.bool false)) w.heap.size (.slice (some ⟨g, 0, none⟩) n0 co) (putL s (cc.f3.take (t + 1)) false)) := Lib.hid (by
                    have h := HPN.out
                    rw [if_pos ⟨by omega, c1⟩, Int.toNat_natCast] at h
                    unfold OB
                    rw [h, List.length_set, hPl]
                    exact hst)
                  have HB2 := Lib.hid (HB.out.grown hgr HB.out.size (fun k hk => by injection hk with hk; have := own_base hoe g rfl; omega))
                  clear hPl hq hoe hst hgr hg HO HB HPN
                  go_wp2_with fail
                  go_roundw
                  case rel => exact ⟨t + 1, by go_num, by omega, HST, HB2⟩
                  case measure => first | (simp [intOf]; omega) | (simp [intOf]; done)
                · have HO2 : Hid (OB wr w.heap.size (.slice Ao n0 co) (putL s (cc.f3.take (t + 1)) false)) := Lib.hid (by
                    rw [HPN.out, if_neg (fun h => c1 h.2)]
                    exact HO.out)
                  clear HPN HO
                  go_wp2_with fail
                  go_roundw
                  case rel => exact ⟨t + 1, by go_num, by omega, HO2, HB⟩
                  case measure => first | (simp [intOf]; omega) | (simp [intOf]; done)
              · have HO2 : Hid (OB wr w.heap.size (.slice Ao n0 co) (putL s (cc.f3.take (t + 1)) false)) := Lib.hid (by
                  rw [HPN.out, if_neg (fun h => c0 h.1)]
                  exact HO.out)
                clear HPN HO
                go_wp2_with fail
                go_roundw
                case rel => exact ⟨t + 1, by go_num, by omega, HO2, HB⟩
                case measure => first | (simp [intOf]; omega) | (simp [intOf]; done)
            · obtain rfl : t = cc.f3.length := by omega
              rw [List.take_length] at HO
              go_wp2_with fail
              go_roundw
              case rel => exact ⟨i + 1, by go_num, by omega, by rw [HSN2.out]; exact HO, HB⟩
              case measure => first | (simp [intOf]; omega) | (simp [intOf]; done)
        · have d1 : (cc.f0 == b) = true := by simpa using e1
          have d2' : (cc.f1 == a) = false := by simpa using e2
          have HSN2 : Hid (afK b a (cs.take (i + 1)) now = s) := Lib.hid (by rw [HTS.out, HSN.out, if_neg (fun h => e2 h.2)])
          clear HSN HTS
          go_wp2_with fail
          go_loopw [11] (fun u wr2 => u = .int .i64 0 ∧ wr2 = wr) (fun _ _ => 0)
          case atStart => exact ⟨rfl, rfl⟩
          case round =>
            obtain ⟨rfl, rfl⟩ := hrel
            by_cases hlt2 : 0 < cc.f3.length
            · go_wp2_with fail
              go_roundw
              case rel => exact ⟨i + 1, by go_num, by omega, by rw [HSN2.out]; exact HO, HB⟩
              case measure => first | (simp [intOf]; omega) | (simp [intOf]; done)
            · obtain h0 : cc.f3.length = 0 := by omega
              go_wp2_with fail
              go_roundw
              case rel => exact ⟨i + 1, by go_num, by omega, by rw [HSN2.out]; exact HO, HB⟩
              case measure => first | (simp [intOf]; omega) | (simp [intOf]; done)
      · have d1 : (cc.f0 == b) = false := by simpa using e1
        have HSN2 : Hid (afK b a (cs.take (i + 1)) now = s) := Lib.hid (by rw [HTS.out, HSN.out, if_neg (fun h => e1 h.1)])
        clear HSN HTS
        go_wp2_with fail
        go_loopw [11] (fun u wr2 => u = .int .i64 0 ∧ wr2 = wr) (fun _ _ => 0)
        case atStart => exact ⟨rfl, rfl⟩
        case round =>
          obtain ⟨rfl, rfl⟩ := hrel
          by_cases hlt2 : 0 < cc.f3.length
          · go_wp2_with fail
            go_roundw
            case rel => exact ⟨i + 1, by go_num, by omega, by rw [HSN2.out]; exact HO, HB⟩
            case measure => first | (simp [intOf]; omega) | (simp [intOf]; done)
          · obtain h0 : cc.f3.length = 0 := by omega
            go_wp2_with fail
            go_roundw
            case rel => exact ⟨i + 1, by go_num, by omega, by rw [HSN2.out]; exact HO, HB⟩
            case measure => first | (simp [intOf]; omega) | (simp [intOf]; done)
    · obtain rfl : i = cs.length := by omega
      rw [List.take_length] at HO
      clear hlt hi
      go_wp2_with fail
      have HO2 : Hid (OB wr w.heap.size (.slice Ao n0 co) (afG b a (cs.take 0) (afK b a cs now))) := HO
      clear HO
      have HO := HO2
      clear HO2
      go_loopw [12] (fun u wr => ∃ i : Nat, u = .int .i64 i ∧ i ≤ cs.length ∧ Hid (OB wr w.heap.size (.slice Ao n0 co) (afG b a (cs.take i) (afK b a cs now))) ∧ Hid (Below w.heap.size w wr)) (fun u _ => cs.length - (intOf u).toNat)
      case atStart => exact ⟨0, rfl, Nat.zero_le _, HO, HB⟩
      case round =>
        clear HO HB
        obtain ⟨i, rfl, hi, HO, HB⟩ := hrel
        by_cases hlt : i < cs.length
        · have hci : cs[i]? = some (rd_T66 cs i) := by simp [rd_T66, List.getElem?_eq_getElem hlt, List.getD_eq_getElem?_getD]
          obtain ⟨ad, A2, d2, A3, d3, rfl, hx0, hx1, hx2, hx3, hl2, hr2, hl3, hr3⟩ := at_T66 HC.out (i : Int) (by omega) (by omega)
          rw [Int.toNat_natCast] at hx0 hx1 hx2 hx3
          have HR := Lib.hid hr2
          have HTS := Lib.hid (take_next hci)
          clear hci hr2 hr3
          obtain ⟨cc, hcc⟩ : ∃ cc, cc = rd_T66 cs i := ⟨_, rfl⟩
          rw [← hcc] at hx0 hx1 hx2 hx3 hl2 hl3 HR HTS
          have hsz : cc.f2.length ≤ 9223372036854775807 := HR.out.2.1
          obtain ⟨s, hs⟩ : ∃ s, s = afG b a (cs.take i) (afK b a cs now) := ⟨_, rfl⟩
          rw [← hs] at HO
          have hsl : s.length = n0 := by rw [hs, afG_length, afK_length, HN0.out]
          have hsn := afG_snoc b a (cs.take i) cc (afK b a cs now)
          rw [← hs] at hsn
          have HSN := Lib.hid hsn
          have HSL := Lib.hid hsl
          have HX0 := Lib.hid hx0
          have HX1 := Lib.hid hx1
          have HX3 := Lib.hid hx2
          clear hs hsl hsn hcc hx0 hx1 hx2 hx3 hl2 hl3
          have y0 := pw_cell_below HB.out HX0.out
          have y1 := pw_cell_below HB.out HX1.out
          have y3 := pw_cell_below HB.out HX3.out
          by_cases e1 : cc.f0 = b
          · by_cases e2 : cc.f1 = a
            · have d1 : (cc.f0 == b) = true := by simpa using e1
              have d2' : (cc.f1 == a) = true := by simpa using e2
              have HSN2 : Hid (afG b a (cs.take (i + 1)) (afK b a cs now) = putL s cc.f2 true) := Lib.hid (by rw [HTS.out, HSN.out, if_pos ⟨e1, e2⟩])
              clear HSN HTS
              go_wp2_with fail
              go_loopw [13] (fun u wr2 => ∃ t : Nat, u = .int .i64 t ∧ t ≤ cc.f2.length ∧ Hid (OB wr2 w.heap.size (.slice Ao n0 co) (putL s (cc.f2.take t) true)) ∧ Hid (Below w.heap.size w wr2)) (fun u _ => cc.f2.length - (intOf u).toNat)
              case atStart => exact ⟨0, rfl, Nat.zero_le _, HO, HB⟩
              case round =>
                clear HO HB y0 y1 y3
                obtain ⟨t, rfl, ht, HO, HB⟩ := hrel
                have y0 := pw_cell_below HB.out HX0.out
                have y1 := pw_cell_below HB.out HX1.out
                have y3 := pw_cell_below HB.out HX3.out
                by_cases hlt2 : t < cc.f2.length
                · obtain ⟨z, hz⟩ : ∃ z, cc.f2[t]? = some z := ⟨_, List.getElem?_eq_getElem hlt2⟩
                  obtain ⟨az, haz, hzc⟩ := Kd.at_int (Kd.C_below HR.out HB.out) (t : Int) (by omega) (by omega)
                  rw [rd_nat, Int.toNat_natCast, show cc.f2.getD t 0 = z by rw [List.getD_eq_getElem?_getD, hz]; rfl] at hzc
                  subst haz
                  have hpn := putL_snoc s (cc.f2.take t) z true
                  rw [← take_next hz, HSL.out] at hpn
                  have HPN := Lib.hid hpn
                  clear hz hpn
                  by_cases c0 : 0 ≤ z
                  · by_cases c1 : z < (n0 : Int)
                    · obtain ⟨Z, rfl⟩ := Int.eq_ofNat_of_zero_le c0
                      have hPl : (putL s (cc.f2.take t) true).length = n0 := by rw [putL_length, HSL.out]
                      obtain ⟨q, hq⟩ : ∃ q, (putL s (cc.f2.take t) true)[Z]? = some q := ⟨_, List.getElem?_eq_getElem (by omega)⟩
                      obtain ⟨g, rfl, hg⟩ := OB.at3 HO.out hq
                      have hoe : wr.ownsRow w.heap.size 4 1 (.slice (some ⟨g, 0, none⟩) n0 co) n0 (encs Value.bool (putL s (cc.f2.take t) true)) := by
                        have h := HO.out
                        unfold OB at h
                        rwa [hPl] at h
                      obtain ⟨hst, hgr⟩ := own_store_of (enc := Value.bool) hoe (Z : Int) true
                      obtain ⟨hcl', hfz⟩ := own_at_of (enc := Value.bool) (d := false) hoe (Z : Int) (by omega) (by omega)
                      rw [Int.toNat_natCast] at hst hgr hcl' hfz
                      have HST : Hid (OB (wr.setCell ⟨g, Z, none⟩ (.bool true)) w.heap.size (.slice (some ⟨g, 0, none⟩) n0 co) (putL s (cc.f2.take (t + 1)) true)) := Lib.hid (by
                        have h := HPN.out
                        rw [if_pos ⟨by omega, c1⟩, Int.toNat_natCast] at h
                        unfold OB
                        rw [h, List.length_set, hPl]
                        exact hst)
                      have HB2 := Lib.hid (HB.out.grown hgr HB.out.size (fun k hk => by injection hk with hk; have := own_base hoe g rfl; omega))
                      clear hPl hq hoe hst hgr hg HO HB HPN
                      go_wp2_with fail
                      go_roundw
                      case rel => exact ⟨t + 1, by go_num, by omega, HST, HB2⟩
                      case measure => first | (simp [intOf]; omega) | (simp [intOf]; done)
                    · have HO2 : Hid (OB wr w.heap.size (.slice Ao n0 co) (putL s (cc.f2.take (t + 1)) true)) := Lib.hid (by
                        rw [HPN.out, if_neg (fun h => c1 h.2)]
                        exact HO.out)
                      clear HPN HO
                      go_wp2_with fail
                      go_roundw
                      case rel => exact ⟨t + 1, by go_num, by omega, HO2, HB⟩
                      case measure => first | (simp [intOf]; omega) | (simp [intOf]; done)
                  · have HO2 : Hid (OB wr w.heap.size (.slice Ao n0 co) (putL s (cc.f2.take (t + 1)) true)) := Lib.hid (by
                      rw [HPN.out, if_neg (fun h => c0 h.1)]
                      exact HO.out)
                    clear HPN HO
                    go_wp2_with fail
                    go_roundw
                    case rel => exact ⟨t + 1, by go_num, by omega, HO2, HB⟩
                    case measure => first | (simp [intOf]; omega) | (simp [intOf]; done)
                · obtain rfl : t = cc.f2.length := by omega
                  rw [List.take_length] at HO
                  go_wp2_with fail
                  go_roundw
                  case rel => exact ⟨i + 1, by go_num, by omega, by rw [HSN2.out]; exact HO, HB⟩
                  case measure => first | (simp [intOf]; omega) | (simp [intOf]; done)
            · have d1 : (cc.f0 == b) = true := by simpa using e1
              have d2' : (cc.f1 == a) = false := by simpa using e2
              have HSN2 : Hid (afG b a (cs.take (i + 1)) (afK b a cs now) = s) := Lib.hid (by rw [HTS.out, HSN.out, if_neg (fun h => e2 h.2)])
              clear HSN HTS
              go_wp2_with fail
              go_loopw [13] (fun u wr2 => u = .int .i64 0 ∧ wr2 = wr) (fun _ _ => 0)
              case atStart => exact ⟨rfl, rfl⟩
              case round =>
                obtain ⟨rfl, rfl⟩ := hrel
                by_cases hlt2 : 0 < cc.f2.length
                · go_wp2_with fail
                  go_roundw
                  case rel => exact ⟨i + 1, by go_num, by omega, by rw [HSN2.out]; exact HO, HB⟩
                  case measure => first | (simp [intOf]; omega) | (simp [intOf]; done)
                · obtain h0 : cc.f2.length = 0 := by omega
                  go_wp2_with fail
                  go_roundw
                  case rel => exact ⟨i + 1, by go_num, by omega, by rw [HSN2.out]; exact HO, HB⟩
                  case measure => first | (simp [intOf]; omega) | (simp [intOf]; done)
          · have d1 : (cc.f0 == b) = false := by simpa using e1
            have HSN2 : Hid (afG b a (cs.take (i + 1)) (afK b a cs now) = s) := Lib.hid (by rw [HTS.out, HSN.out, if_neg (fun h => e1 h.1)])
            clear HSN HTS
            go_wp2_with fail
            go_loopw [13] (fun u wr2 => u = .int .i64 0 ∧ wr2 = wr) (fun _ _ => 0)
            case atStart => exact ⟨rfl, rfl⟩
            case round =>
              obtain ⟨rfl, rfl⟩ := hrel
              by_cases hlt2 : 0 < cc.f2.length
              · go_wp2_with fail
                go_roundw
                case rel => exact ⟨i + 1, by go_num, by omega, by rw [HSN2.out]; exact HO, HB⟩
                case measure => first | (simp [intOf]; omega) | (simp [intOf]; done)
              · obtain h0 : cc.f2.length = 0 := by omega
                go_wp2_with fail
                go_roundw
                case rel => exact ⟨i + 1, by go_num, by omega, by rw [HSN2.out]; exact HO, HB⟩
                case measure => first | (simp [intOf]; omega) | (simp [intOf]; done)
        · obtain rfl : i = cs.length := by omega
          rw [List.take_length] at HO
          clear hlt hi
          go_wp2_with fail
          go_ret
          exact ⟨_, rfl, HO.out, HB.out⟩
end Go.Proofs.Ythgnbeeobhfeaaa.T
end

section
/- Walks: what holds, along any way. -/
namespace Go.Proofs.Ythgnbeeobhfeaaa.T
open Go.RowKit Go.Shelf Go.Proofs.YthgnbeeobhfeaaaW.PrintWords Go.Proofs.YthgnbeeobhfeaaaW.PrintLast

theorem insN_of2 {l03 : List S58} {i : Nat} (hi : i < l03.length) : insN (bksOf l03) i = (rd_T58 l03 i).f0.length := by rw [insN, rd_T58_get hi]; rfl
/-- The first i of the flags that start. -/
def cpyL (N : Nat) (start : List Bool) (i : Nat) : List Bool := (List.range N).map fun t => if t < i then start.getD t false else false
theorem cpyL_length (N : Nat) (start : List Bool) (i : Nat) : (cpyL N start i).length = N := by simp [cpyL]
theorem cpyL_zero (N : Nat) (start : List Bool) : cpyL N start 0 = List.replicate N false := by
  apply List.ext_getElem?
  intro j
  by_cases hj : j < N
  · simp [cpyL, hj]
  · simp [cpyL, hj]
theorem cpyL_set {N : Nat} {start : List Bool} {i : Nat} (hi : i < N) : (cpyL N start i).set i (start.getD i false) = cpyL N start (i + 1) := by
  apply List.ext_getElem?
  intro j
  by_cases hj : j < N
  · by_cases e : i = j
    · subst e
      rw [List.getElem?_set_self (by rw [cpyL_length]; exact hi)]
      simp [cpyL, hj]
    · rw [List.getElem?_set_ne e]
      simp only [cpyL, List.getElem?_map, List.getElem?_range hj, Option.map_some]
      by_cases h : j < i
      · rw [if_pos h, if_pos (by omega)]
      · rw [if_neg h, if_neg (by omega)]
  · rw [List.getElem?_eq_none (by simp [cpyL_length]; omega), List.getElem?_eq_none (by rw [cpyL_length]; omega)]
theorem cpyL_done {N : Nat} {start : List Bool} {i : Nat} (h : N ≤ i ∨ start.length ≤ i) : cpyL N start i = firstL N start := by
  unfold cpyL firstL
  refine List.map_congr_left (fun t ht => ?_)
  rw [List.mem_range] at ht
  rcases h with h | h
  · rw [if_pos (by omega)]
  · split
    · rfl
    · rw [List.getD_eq_getElem?_getD, List.getElem?_eq_none (by omega)]; rfl

set_option maxRecDepth 100000 in
set_option maxHeartbeats 16000000 in
theorem way_le (s : ByteArray) (p : Int) (A2 : Option Addr) (n2 c2 : Nat) (A3 : Option Addr) (c3 : Nat) (l03 : List S58) (n : Int) (As : Option Addr) (cst : Nat) (start : List Bool) (Al : Option Addr) (cl : Nat) (cs : List S66) (Aw : Option Addr) (cw : Nat) (way : List Int) (w : World)
    (hC : Kd.C k58 w A3 l03.length l03) (hS : Kd.bool.C w As start.length start) (hs : start.length ≤ cst) (hCs : Kd.C k66 w Al cs.length cs) (hcl : cs.length ≤ cl) (hWs : ∀ c ∈ cs, inW c.f0 = true ∧ inW c.f1 = true) (hW : (Kd.int .i64).C w Aw way.length way) (hNS : n ≤ start.length) :
    Calls Try.prog 6 #[bodyV s p A2 n2 c2 A3 l03.length c3, .int .i64 n, .slice As start.length cst, .slice Al cs.length cl, .slice Aw way.length cw] w fun e w' => e = .returned (.bool true) ∧ Below w.heap.size w w' := by
  have HC := Lib.hid hC
  have HS := Lib.hid hS
  have HCs := Lib.hid hCs
  have HWs := Lib.hid hWs
  have HWY := Lib.hid hW
  have hlw : way.length ≤ 9223372036854775807 := hW.2.1
  have hls : start.length ≤ 9223372036854775807 := hS.2.1
  have hl3 : l03.length ≤ 9223372036854775807 := hC.2.1
  clear hC hS hCs hWs hW
  go_enter Try.func6, Try.ntmps6
  go_wp2_with fail
  have hbx : BoxIs (w.alloc (.cells (bodyC s p A2 n2 c2 A3 l03.length c3) 25)) w.heap.size (bodyC s p A2 n2 c2 A3 l03.length c3) 25 := heap_alloc_new w _
  have hlow := below_alloc (Below.refl w.heap.size w) (.cells (bodyC s p A2 n2 c2 A3 l03.length c3) 25)
  generalize w.alloc (.cells (bodyC s p A2 n2 c2 A3 l03.length c3) 25) = w1 at *
  refine (works_any w1).mono ?_
  rintro e w2 ⟨rfl, hb⟩
  replace hbx := hbx.below hb hbx.lt
  replace hlow := below_then hlow hlow.size hb
  clear hb
  have e0 := hbx.cell 0 _ rfl
  have e1 := hbx.cell 1 _ rfl
  have e2 := hbx.cell 2 _ rfl
  have e3 := hbx.cell 3 _ rfl
  have HBX := Lib.hid hbx
  have HLO := Lib.hid hlow
  clear hbx hlow
  go_wp2_with fail
  refine (over_any s p A2 n2 c2 A3 c3 l03 n Al cl cs w2 (Kd.C_below HC.out HLO.out) (Kd.C_below HCs.out HLO.out)).mono ?_
  rintro e w3 ⟨_, rfl, ⟨o, rfl, ho⟩, hb⟩
  have HBX3 := Lib.hid (HBX.out.below hb HBX.out.lt)
  have HLO3 := Lib.hid (below_then HLO.out HLO.out.size hb)
  clear hb HBX HLO e0 e1 e2 e3
  have e3 := HBX3.out.cell 3 _ rfl
  cases o with
  | true =>
    clear ho
    go_wp2_with fail
    go_ret
    exact ⟨rfl, HLO3.out⟩
  | false =>
    obtain ⟨hfew, hn30, hfc⟩ := ho rfl
    clear ho
    by_cases k0 : start.length > 30
    · have k0' : (start.length : Int) > 30 := by omega
      go_wp2_with fail
      go_ret
      exact ⟨rfl, HLO3.out⟩
    · have k0' : ¬ ((start.length : Int) > 30) := by omega
      by_cases k1 : way.length > 30
      · have k1' : (way.length : Int) > 30 := by omega
        go_wp2_with fail
        go_ret
        exact ⟨rfl, HLO3.out⟩
      · have k1' : ¬ ((way.length : Int) > 30) := by omega
        by_cases k2 : l03.length = 0
        · have k2' : ((l03.length : Int) == 0) = true := by simpa using k2
          go_wp2_with fail
          go_ret
          exact ⟨rfl, HLO3.out⟩
        · have k2' : ((l03.length : Int) == 0) = false := by
            rw [beq_eq_false_iff_ne]
            omega
          by_cases k3 : n < 0
          · go_wp2_with fail
            go_ret
            exact ⟨rfl, HLO3.out⟩
          · obtain ⟨N, rfl⟩ := Int.eq_ofNat_of_zero_le (show 0 ≤ n by omega)
            have hcf := fewC_len2 hfc
            have hfl1 := flow_any s p A2 n2 c2 A3 c3 l03 N As cst start Al cl cs false w3 (Kd.C_below HC.out HLO3.out) hfew hn30 (Kd.C_below HS.out HLO3.out) hs (Kd.C_below HCs.out HLO3.out) hcl hcf HWs.out
            rw [Int.toNat_natCast] at hfl1
            have HFL := Lib.hid hfl1
            have e0 := HBX3.out.cell 0 _ rfl
            have e1 := HBX3.out.cell 1 _ rfl
            have e2 := HBX3.out.cell 2 _ rfl
            have hmk : ∀ W : World, (Instr.makeSlice 26 (.int .i64 N) (.int .i64 N)).run Try.prog W = .ok (.slice (some ⟨W.heap.size, 0, none⟩) N N) (W.alloc (.cells (madeCells #[.bool false] N) 4)) := fun W => run_make_row' (P := Try.prog) 26 4 (.bool false) 1 Try.underlying26 info4 rfl .i64 .i64 N (by omega) (by omega) W
            clear hfl1
            go_wp2_with fail
            refine HFL.out.mono ?_
            rintro e w5 ⟨v5, rfl, hN5, hb5⟩
            obtain ⟨Axx, cxx, rfl⟩ := hN5.slice
            rw [flowL_length, bksOf_length]
            have HLO5 := Lib.hid (below_then HLO3.out HLO3.out.size hb5)
            have hbx5 := HBX3.out.below hb5 HBX3.out.lt
            have hfl2 := flow_any s p A2 n2 c2 A3 c3 l03 N As cst start Al cl cs true w5 (Kd.C_below HC.out HLO5.out) hfew hn30 (Kd.C_below HS.out HLO5.out) hs (Kd.C_below HCs.out HLO5.out) hcl hcf HWs.out
            rw [Int.toNat_natCast] at hfl2
            have HFL2 := Lib.hid hfl2
            have HN5 := Lib.hid hN5
            have HBX5 := Lib.hid hbx5
            clear e0 e1 e2 e3 hb5 hfl2 HFL hN5 hbx5
            have e0 := HBX5.out.cell 0 _ rfl
            have e1 := HBX5.out.cell 1 _ rfl
            have e2 := HBX5.out.cell 2 _ rfl
            have e3 := HBX5.out.cell 3 _ rfl
            go_wp2_with fail
            refine HFL2.out.mono ?_
            rintro e w6 ⟨v6, rfl, hN6, hb6⟩
            obtain ⟨Ayy, cyy, rfl⟩ := hN6.slice
            rw [flowL_length, bksOf_length]
            have HLO6 := Lib.hid (below_then HLO5.out HLO5.out.size hb6)
            have HBX6 := Lib.hid (HBX5.out.below hb6 HBX5.out.lt)
            have hlt6 : w.heap.size < w6.heap.size := HBX6.out.lt
            have HNX := Lib.hid (HN5.out.below hb6)
            have HNY := Lib.hid hN6
            have HFEW := Lib.hid hfew
            have hl30 : l03.length ≤ 30 := (fewB_at hfew).1
            have hcs : ∀ c ∈ cs, c.f2.length ≤ 1000000 ∧ c.f3.length ≤ 1000000 := fun c hc => by
              have h := hfc
              simp only [fewC, Bool.and_eq_true, decide_eq_true_eq, List.all_eq_true] at h
              have := h.2 ⟨c.f0, c.f1, c.f2, c.f3⟩ (by unfold chsOf; exact List.mem_map.2 ⟨c, hc, rfl⟩)
              simp only at this
              omega
            have HCSL := Lib.hid hcs
            have HXL : Hid ((flowL (bksOf l03) N start (chsOf cs) false).length = l03.length) := Lib.hid (by rw [flowL_length, bksOf_length])
            have HYL : Hid ((flowL (bksOf l03) N start (chsOf cs) true).length = l03.length) := Lib.hid (by rw [flowL_length, bksOf_length])
            clear hb6 hN6 HFL2 HN5 HBX5 HLO5 e0 e1 e2 e3 k0' k1' k2' HBX3 HLO3 hfew hfc hcs
            have hown := own_made_of' (enc := Value.bool) (d := false) w6 w6.heap.size 4 N (Nat.le_refl _) (by omega)
            have HOW : Hid ((w6.alloc (.cells (madeCells #[.bool false] N) 4)).ownsRow w6.heap.size 4 1 (.slice (some ⟨w6.heap.size, 0, none⟩) N N) N (encs Value.bool (cpyL N start 0))) := Lib.hid (by
              rw [cpyL_zero]
              rwa [List.length_replicate] at hown)
            have HBA : Hid (Below w6.heap.size w6 (w6.alloc (.cells (madeCells #[.bool false] N) 4))) := Lib.hid (below_alloc (Below.refl _ _) _)
            clear hown
            go_wp2_with fail
            generalize w6.alloc (.cells (madeCells #[.bool false] N) 4) = w7 at *
            go_loopw [16] (fun u16 wr => ∃ i : Nat, u16 = .int .i64 i ∧ i ≤ N ∧ i ≤ start.length ∧ Hid (wr.ownsRow w6.heap.size 4 1 (.slice (some ⟨w6.heap.size, 0, none⟩) N N) N (encs Value.bool (cpyL N start i))) ∧ Hid (Below w6.heap.size w6 wr)) (fun u16 _ => N - (intOf u16).toNat)
            case atStart => exact ⟨0, rfl, Nat.zero_le _, Nat.zero_le _, HOW, HBA⟩
            case round =>
              clear HOW HBA hmk
              obtain ⟨i, rfl, hi1, hi2, HO, HW⟩ := hrel
              by_cases g : i < N ∧ i < start.length
              · obtain ⟨g1, g2⟩ := g
                have HOe := HO.out
                obtain ⟨b, hb⟩ : ∃ b, start[i]? = some b := ⟨_, List.getElem?_eq_getElem g2⟩
                obtain ⟨as_, has, hsc⟩ := Kd.at_bool (Kd.C_below HS.out (below_then HLO6.out HLO6.out.size HW.out)) (i : Int) (by omega) (by omega)
                rw [show rdOf false start (i : Int) = b by simp [rdOf, List.getD_eq_getElem?_getD, hb], Int.toNat_natCast] at hsc
                subst has
                have hset := cpyL_set (N := N) (start := start) g1
                rw [show start.getD i false = b by rw [List.getD_eq_getElem?_getD, hb]; rfl] at hset
                obtain ⟨hst, hgr⟩ := own_store_of (enc := Value.bool) HOe (i : Int) b
                rw [Int.toNat_natCast, hset] at hst
                rw [Int.toNat_natCast] at hgr
                obtain ⟨hcl', hfz⟩ := own_at_of (enc := Value.bool) (d := false) HOe (i : Int) (by omega) (by omega)
                rw [Int.toNat_natCast] at hcl' hfz
                have HST := Lib.hid hst
                have HB2 := Lib.hid (HW.out.grown hgr HW.out.size (fun k hk => by injection hk with hk; omega))
                have g1' : (i : Int) < (N : Int) := by omega
                have g2' : (i : Int) < (start.length : Int) := by omega
                clear hset hst hgr HOe hb HO HW
                go_wp2_with fail
                go_roundw
                case rel => exact ⟨i + 1, by go_num, by omega, by omega, HST, HB2⟩
                case measure => first | (simp [intOf]; omega) | (simp [intOf]; done)
              · have HOB : Hid (OB wr w6.heap.size (.slice (some ⟨w6.heap.size, 0, none⟩) N N) (firstL N start)) := Lib.hid (by
                  have h := HO.out
                  rw [cpyL_done (by omega)] at h
                  unfold OB
                  rwa [show (firstL N start).length = N by simp [firstL]])
                have HINV : Hid (WayInv (bksOf l03) (chsOf cs) start N 0 0 (firstL N start)) := Lib.hid (WayInv.begin (by rw [bksOf_length]; omega))
                clear HO
                have g1 : ¬ i < N := by omega
                first | (have g2' : ¬ ((i : Int) < (start.length : Int)) := by omega) | skip
                first | (have g1' : ¬ ((i : Int) < (N : Int)) := by omega) | skip
                first | (have g1'' : (i : Int) < (N : Int) := by omega) | skip
                go_wp2_with fail
                go_loopw [15, 17, 18] (fun u15 u17 u18 wr => ∃ (at_ t : Nat) (now : List Bool), u17 = .int .i64 at_ ∧ u18 = .int .i64 t ∧ t ≤ way.length ∧ Hid (OB wr w6.heap.size u15 now) ∧ Hid (Below w6.heap.size w6 wr) ∧ Hid (WayInv (bksOf l03) (chsOf cs) start N at_ 0 now)) (fun _ _ u18 _ => way.length + 1 - (intOf u18).toNat)
                case atStart => exact ⟨0, 0, _, rfl, rfl, Nat.zero_le _, HOB, HW, HINV⟩
                case round =>
                  clear HOB HINV HW
                  obtain ⟨at_, t, now, rfl, rfl, ht, HO, HW, HI⟩ := hrel
                  obtain ⟨wo, rfl⟩ : ∃ x, x = wr := ⟨wr, rfl⟩
                  have hat : at_ < l03.length := by
                    have := HI.out.rch.lt
                    rwa [bksOf_length] at this
                  have hbx := HBX6.out.below HW.out hlt6
                  have e3 := hbx.cell 3 _ rfl
                  obtain ⟨X, hX⟩ : ∃ X, (flowL (bksOf l03) N start (chsOf cs) false)[at_]? = some X := ⟨_, List.getElem?_eq_getElem (by have := HXL.out; omega)⟩
                  obtain ⟨Y, hY⟩ : ∃ Y, (flowL (bksOf l03) N start (chsOf cs) true)[at_]? = some Y := ⟨_, List.getElem?_eq_getElem (by have := HYL.out; omega)⟩
                  have hXl := flow_row HI.out.rch hX
                  have hYl := flow_row HI.out.rch hY
                  rw [insN_of2 hat] at hXl hYl
                  obtain ⟨gx, cx', Ax, dx, ex, hcx, hnx⟩ := HNX.out.at_ hX
                  obtain ⟨gy, cy', Ay, dy, ey, hcy, hny⟩ := HNY.out.at_ hY
                  injection ex with ex1 ex2 ex3
                  injection ey with ey1 ey2 ey3
                  subst ex1 ey1 ex3 ey3
                  clear ex2 ey2
                  obtain ⟨ad, A0, d0, A16, d16, hA, hcc, _, _⟩ := bk_at HC.out at_ hat
                  subst hA
                  have zb := pw_cell_below (below_then HLO6.out HLO6.out.size HW.out) hcc
                  have hI := (fewB_at HFEW.out).2 (rd_T58 l03 at_) (by simp [rd_T58, List.getElem?_eq_getElem hat, List.getD_eq_getElem?_getD])
                  rw [hXl] at hcx hnx
                  rw [hYl] at hcy hny
                  obtain ⟨I, hIe⟩ : ∃ I, I = (rd_T58 l03 at_).f0.length := ⟨_, rfl⟩
                  rw [← hIe] at zb hXl hYl hI hcx hnx hcy hny
                  have hi30 : I ≤ 30 := hI.1
                  obtain ⟨gr, rfl⟩ := hnx.head (by omega)
                  obtain ⟨gs, rfl⟩ := hny.head (by omega)
                  have HIX := Lib.hid hX
                  have HIY := Lib.hid hY
                  have HNx := Lib.hid hnx
                  have HNy := Lib.hid hny
                  have HIe := Lib.hid hIe
                  have HXl := Lib.hid hXl
                  have HYl := Lib.hid hYl
                  have HCX := Lib.hid hcx
                  have HCY := Lib.hid hcy
                  have zx := pw_cell_below HW.out hcx
                  have zy := pw_cell_below HW.out hcy
                  have hne : (((I + 2 : Nat) : Int) != (I : Int) + 2) = false := by simp
                  have hatd : decide (l03.length ≤ at_) = false := by simp; omega
                  have hatd2 : decide ((l03.length : Int) ≤ (at_ : Int)) = false := by simp; omega
                  have hne2 : ((I : Int) + 2 != IntKind.i64.wrap ((I : Int) + 2)) = false := by rw [wrapK_small (by omega) (by omega)]; simp
                  have htw : (t : Int) ≤ (way.length : Int) := by omega
                  clear hX hY hnx hny hcx hcy hcc hI hIe hXl hYl hbx
                  have hwv : Value.int .i64 (wrap64 ((I : Int) + 2)) = Value.int .i64 ((I : Int) + 2) := congrArg (Value.int .i64) (wrap_small (by omega) (by omega))
                  go_wp2_with fail
                  go_quiet (fail)
                  go_wp2_with fail
                  go_loopw [15, 19] (fun u15 u19 wk => ∃ (k : Nat) (nw : List Bool), u19 = .int .i64 k ∧ k ≤ I + 2 ∧ Hid (OB wk w6.heap.size u15 nw) ∧ Hid (Below w6.heap.size w6 wk) ∧ Hid (WayInv (bksOf l03) (chsOf cs) start N at_ (min k (I + 1)) nw)) (fun _ u19 _ => I + 2 - (intOf u19).toNat)
                  case atStart => exact ⟨0, now, rfl, by omega, Lib.hid (pw_own_below HO.out (pw_below_drewN (Below.refl _ _) _)), Lib.hid (pw_below_drewN HW.out _), HI⟩
                  case round =>
                    clear HO HW HI zx zy zb hne hatd hatd2 hne2 hwv e3
                    obtain ⟨k, nw, rfl, hk, HO, HW, HI⟩ := hrel
                    obtain ⟨wz, rfl⟩ : ∃ x, x = wr := ⟨wr, rfl⟩
                    have zx := pw_cell_below HW.out HCX.out
                    have zy := pw_cell_below HW.out HCY.out
                    have hwkv : Value.int .i64 (wrap64 ((k : Int) + 1)) = Value.int .i64 ((k : Int) + 1) := congrArg (Value.int .i64) (wrap_small (by omega) (by omega))
                    by_cases hlt : k < I + 2
                    · rw [show min k (I + 1) = k by omega] at HI
                      obtain ⟨x, hx⟩ : ∃ x, X[k]? = some x := ⟨_, List.getElem?_eq_getElem (by have := HXl.out; omega)⟩
                      obtain ⟨y, hy⟩ : ∃ y, Y[k]? = some y := ⟨_, List.getElem?_eq_getElem (by have := HYl.out; omega)⟩
                      have hxl := (flowL_flag HIX.out hx).1
                      have hyl := (flowL_flag HIY.out hy).1
                      obtain ⟨Au, du, hcu, hou⟩ := HNx.out.at2 hx
                      obtain ⟨Av, dv, hcv, hov⟩ := HNy.out.at2 hy
                      rw [hxl] at hcu hou
                      rw [hyl] at hcv hov
                      have zu := pw_cell_below HW.out hcu
                      have zv := pw_cell_below HW.out hcv
                      have HCU := Lib.hid hcu
                      have HCV := Lib.hid hcv
                      have HOu := Lib.hid hou
                      have HOv := Lib.hid hov
                      have hnl := HI.out.len
                      obtain ⟨An, cn, hvn, hcn, hRn⟩ := OB.reads HO.out
                      subst hvn
                      rw [hnl] at hcn hRn
                      have HRN := Lib.hid hRn
                      have HFL : Hid (∀ (j : Nat) (a b c : Bool), nw[j]? = some a → x[j]? = some b → y[j]? = some c → (a && !b) = false ∧ (c && !a) = false) := Lib.hid (fun j a b c ha hb hc => HI.out.at_ HIX.out HIY.out hx hy ha hb hc)
                      have q3 : (k : Int) < (I : Int) + 2 := by omega
                      clear hcu hcv hou hov hRn hx hy
                      rw [hnl]
                      go_wp2_with fail
                      go_loopw [20] (fun u20 wk => ∃ j : Nat, u20 = .int .i64 j ∧ j ≤ N ∧ Hid (Below wz.heap.size wz wk)) (fun u20 _ => N - (intOf u20).toNat)
                      case atStart => exact ⟨0, rfl, Nat.zero_le _, Lib.hid (Below.refl _ _)⟩
                      case round =>
                        obtain ⟨j, rfl, hj, HK⟩ := hrel
                        have HWk := Lib.hid (below_then HW.out HW.out.size HK.out)
                        have yx := pw_cell_below HWk.out HCX.out
                        have yy := pw_cell_below HWk.out HCY.out
                        have yu := pw_cell_below HWk.out HCU.out
                        have yv := pw_cell_below HWk.out HCV.out
                        by_cases hlt2 : j < N
                        · obtain ⟨a, ha⟩ : ∃ a, nw[j]? = some a := ⟨_, List.getElem?_eq_getElem (by have := HI.out.len; omega)⟩
                          obtain ⟨b, hb⟩ : ∃ b, x[j]? = some b := ⟨_, List.getElem?_eq_getElem (by omega)⟩
                          obtain ⟨c, hc⟩ : ∃ c, y[j]? = some c := ⟨_, List.getElem?_eq_getElem (by omega)⟩
                          obtain ⟨h1, h2⟩ := HFL.out j a b c ha hb hc
                          obtain ⟨gu, rfl, hcb⟩ := HOu.out.at2 hb
                          obtain ⟨gv, rfl, hcc'⟩ := HOv.out.at2 hc
                          have yb := pw_cell_below HWk.out hcb
                          have yc := pw_cell_below HWk.out hcc'
                          obtain ⟨an, han, hna⟩ := Kd.at_bool (Kd.C_below (show Kd.bool.C wz An nw.length nw by rw [HI.out.len]; exact HRN.out) HK.out) (j : Int) (by omega) (by have := HI.out.len; omega)
                          rw [show rdOf false nw (j : Int) = a by simp [rdOf, List.getD_eq_getElem?_getD, ha], Int.toNat_natCast] at hna
                          subst han
                          have g3 : (j : Int) < (N : Int) := by omega
                          clear ha hb hc hcb hcc'
                          cases a with
                          | true =>
                            obtain rfl : b = true := by simpa using h1
                            cases c <;>
                            · go_wp2_with fail
                              go_roundw
                              case rel => exact ⟨j + 1, by go_num, by omega, HK⟩
                              case measure => first | (simp [intOf]; omega) | (simp [intOf]; done)
                          | false =>
                            obtain rfl : c = false := by simpa using h2
                            go_wp2_with fail
                            go_roundw
                            case rel => exact ⟨j + 1, by go_num, by omega, HK⟩
                            case measure => first | (simp [intOf]; omega) | (simp [intOf]; done)
                        · obtain rfl : N = j := by omega
                          have HRN2 : Hid (Kd.bool.C wr An nw.length nw) := Lib.hid (by rw [HI.out.len]; exact Kd.C_below HRN.out HK.out)
                          have HAFT : Hid (∀ W : World, Below w6.heap.size w6 W → Kd.bool.C W An nw.length nw → Calls Try.prog 22 #[.slice An N cn, .slice Al cs.length cl, .int .i64 at_, .int .i64 k] W fun e w' => ∃ v, e = .returned v ∧ OB w' W.heap.size v (stepL (chsOf cs) at_ k nw) ∧ Below W.heap.size W w') := Lib.hid (fun W hW hR => by
                            have h := after_any An cn nw Al cl cs at_ k W hR (Kd.C_below HCs.out (below_then HLO6.out HLO6.out.size hW)) (by rw [HI.out.len]; omega)
                            rwa [HI.out.len] at h)
                          have hwki : Value.int .i64 (IntKind.i64.wrap ((k : Int) + 1)) = Value.int .i64 ((k : Int) + 1) := congrArg (Value.int .i64) (wrapK_small (by omega) (by omega))
                          clear hlt2 hj yy yu yv hxl hyl
                          by_cases hk1 : k < I + 1
                          · have q4 : (k : Int) + 1 < (I : Int) + 2 := by omega
                            have q5 : decide ((k : Int) + 1 < (I : Int) + 2) = true := by simpa using q4
                            go_wp2_with fail
                            refine (HAFT.out _ ?_ ?_).mono ?_
                            · first | exact HWk.out | exact pw_below_drewN HWk.out _
                            · first | exact HRN2.out | exact Kd.C_below HRN2.out (pw_below_drewN (Below.refl _ _) _)
                            rintro e w8 ⟨v8, rfl, hR8, hb8⟩
                            have HW8 := Lib.hid (below_then HWk.out HWk.out.size hb8)
                            have HO8 : Hid (OB w8 w6.heap.size v8 (stepL (chsOf cs) at_ k nw)) := Lib.hid (own_weaken hR8 HWk.out.size)
                            have HI8 := Lib.hid (HI.out.step)
                            clear hR8 hb8 yx HAFT HRN2 HWk HK
                            go_wp2_with fail
                            go_roundw
                            case rel => exact ⟨k + 1, stepL (chsOf cs) at_ k nw, by go_num, by omega, HO8, HW8, by rw [show min (k + 1) (I + 1) = k + 1 by omega]; exact HI8⟩
                            case measure => first | (simp [intOf]; omega) | (simp [intOf]; done)
                          · obtain rfl : k = I + 1 := by omega
                            have q4 : ¬ (((I + 1 : Nat) : Int) + 1 < (I : Int) + 2) := by omega
                            have q5 : decide (((I + 1 : Nat) : Int) + 1 < (I : Int) + 2) = false := by simp; omega
                            have HO8 : Hid (OB wr w6.heap.size (.slice An N cn) nw) := Lib.hid (by
                              have h := pw_own_below HO.out HK.out
                              rw [show Value.slice An nw.length cn = Value.slice An N cn by rw [HI.out.len]] at h
                              exact h)
                            clear HAFT HRN2
                            go_wp2_with fail
                            go_roundw
                            case rel => exact ⟨I + 2, nw, by go_num, by omega, HO8, HWk, by rw [show min (I + 2) (I + 1) = min (I + 1) (I + 1) by omega]; first | exact HI | (rw [show min (I + 1) (I + 1) = I + 1 by omega]; exact HI)⟩
                            case measure => first | (simp [intOf]; omega) | (simp [intOf]; done)
                    · obtain rfl : k = I + 2 := by omega
                      rw [show min (I + 2) (I + 1) = insN (bksOf l03) at_ + 1 by rw [insN_of2 hat, ← HIe.out]; omega] at HI
                      have hbx := HBX6.out.below HW.out hlt6
                      have e0 := hbx.cell 0 _ rfl
                      have e1 := hbx.cell 1 _ rfl
                      have e2 := hbx.cell 2 _ rfl
                      have e3 := hbx.cell 3 _ rfl
                      have hmem : ∀ q ∈ succI (bksOf l03) at_, 0 ≤ q ∧ q < (l03.length : Int) := fun q hq => by
                        have := mem_succI hq
                        rwa [bksOf_length] at this
                      have htl : (succI (bksOf l03) at_).length ≤ 30 := by
                        have h1 := okTo_le (bksOf l03).length (((bksOf l03)[at_]?.map Bk.to).getD [])
                        rw [rd_T58_get hat] at h1
                        have h2 := ((fewB_at HFEW.out).2 (rd_T58 l03 at_) (by simp [rd_T58, List.getElem?_eq_getElem hat, List.getD_eq_getElem?_getD])).2
                        have h3 : succI (bksOf l03) at_ = okTo (bksOf l03).length (((bksOf l03)[at_]?.map Bk.to).getD []) := rfl
                        rw [h3, rd_T58_get hat]
                        exact Nat.le_trans h1 h2
                      have HEDGE : Hid (∀ Q : Nat, (Q : Int) ∈ succI (bksOf l03) at_ → edge (bksOf l03) at_ Q = true) := Lib.hid (fun Q h => edge_iff.2 h)
                      have hrto := fun (wz : World) (hz : Below w6.heap.size w6 wz) => rto_any s p A2 n2 c2 (some ad) c3 l03 at_ wz (Kd.C_below HC.out (below_then HLO6.out HLO6.out.size hz)) hat HFEW.out
                      generalize succI (bksOf l03) at_ = tos at *
                      have HRTO := Lib.hid hrto
                      have HMEM := Lib.hid hmem
                      clear hlt hk hbx hrto hmem hwkv zy
                      go_wp2_with fail
                      refine (HRTO.out wz HW.out).mono ?_
                      rintro e w8 ⟨vt, rfl, hoi, hb8⟩
                      obtain ⟨At, ct, rfl⟩ := hoi.slice
                      have HW8 := Lib.hid (below_then HW.out HW.out.size hb8)
                      have HO8 := Lib.hid (pw_own_below HO.out hb8)
                      have HOI := Lib.hid hoi
                      clear hb8 hoi HRTO HO e0 e1 e2 e3
                      have hwtv : Value.int .i64 (wrap64 ((t : Int) + 1)) = Value.int .i64 ((t : Int) + 1) := congrArg (Value.int .i64) (wrap_small (by omega) (by omega))
                      by_cases m1 : t = way.length
                      · have m1' : ((t : Int) == (way.length : Int)) = true := by rw [beq_iff_eq]; omega
                        go_wp2_with fail
                        go_ret
                        exact ⟨rfl, below_then HLO6.out HLO6.out.size HW8.out⟩
                      · have m1' : ((t : Int) == (way.length : Int)) = false := by
                          rw [beq_eq_false_iff_ne]; omega
                        by_cases m2 : tos.length = 0
                        · have m2' : ((tos.length : Int) == 0) = true := by simpa using m2
                          go_wp2_with fail
                          go_ret
                          exact ⟨rfl, below_then HLO6.out HLO6.out.size HW8.out⟩
                        · have m2' : ((tos.length : Int) == 0) = false := by
                            rw [beq_eq_false_iff_ne]; omega
                          obtain ⟨a, hwa⟩ : ∃ a, way[t]? = some a := ⟨_, List.getElem?_eq_getElem (by omega)⟩
                          obtain ⟨az, haz, hzc⟩ := Kd.at_int (Kd.C_below HWY.out (below_then HLO6.out HLO6.out.size HW8.out)) (t : Int) (by omega) (by omega)
                          rw [rd_nat, Int.toNat_natCast, show way.getD t 0 = a by rw [List.getD_eq_getElem?_getD, hwa]; rfl] at hzc
                          subst haz
                          obtain ⟨m, hm, hturn⟩ := turn_in a tos.length (by omega) htl
                          have hturnv := congrArg (Value.int .i64) hturn
                          clear hturn
                          obtain ⟨q, hq⟩ : ∃ q, tos[m]? = some q := ⟨_, List.getElem?_eq_getElem hm⟩
                          have hqm := List.mem_of_getElem? hq
                          have hqr := HMEM.out q hqm
                          obtain ⟨Q, rfl⟩ := Int.eq_ofNat_of_zero_le hqr.1
                          obtain ⟨gt, rfl, hct⟩ := HOI.out.at2 hq
                          have HIN := Lib.hid (HI.out.next (HEDGE.out Q hqm))
                          have m3 : ((tos.length : Int) = 0) = False := eq_false (by omega)
                          have m4 : (t : Int) < (way.length : Int) := by omega
                          have m5 : (m : Int) < (tos.length : Int) := by omega
                          clear hwa hq hqm HEDGE HMEM
                          go_wp2_with fail
                          go_roundw
                          case rel => exact ⟨Q, t + 1, nw, rfl, by go_num, by omega, HO8, HW8, HIN⟩
                          case measure => first | (simp [intOf]; omega) | (simp [intOf]; done)
end Go.Proofs.Ythgnbeeobhfeaaa.T
end

section
/- Walks: what holds, along any way: more flags than start. -/
namespace Go.Proofs.Ythgnbeeobhfeaaa.T
open Go.RowKit Go.Shelf Go.Proofs.YthgnbeeobhfeaaaW.PrintWords Go.Proofs.YthgnbeeobhfeaaaW.PrintLast

set_option maxRecDepth 100000 in
set_option maxHeartbeats 16000000 in
theorem way_gt (s : ByteArray) (p : Int) (A2 : Option Addr) (n2 c2 : Nat) (A3 : Option Addr) (c3 : Nat) (l03 : List S58) (n : Int) (As : Option Addr) (cst : Nat) (start : List Bool) (Al : Option Addr) (cl : Nat) (cs : List S66) (Aw : Option Addr) (cw : Nat) (way : List Int) (w : World)
    (hC : Kd.C k58 w A3 l03.length l03) (hS : Kd.bool.C w As start.length start) (hs : start.length ≤ cst) (hCs : Kd.C k66 w Al cs.length cs) (hcl : cs.length ≤ cl) (hWs : ∀ c ∈ cs, inW c.f0 = true ∧ inW c.f1 = true) (hW : (Kd.int .i64).C w Aw way.length way) (hNS : ¬ n ≤ start.length) :
    Calls Try.prog 6 #[bodyV s p A2 n2 c2 A3 l03.length c3, .int .i64 n, .slice As start.length cst, .slice Al cs.length cl, .slice Aw way.length cw] w fun e w' => e = .returned (.bool true) ∧ Below w.heap.size w w' := by
  have HC := Lib.hid hC
  have HS := Lib.hid hS
  have HCs := Lib.hid hCs
  have HWs := Lib.hid hWs
  have HWY := Lib.hid hW
  have hlw : way.length ≤ 9223372036854775807 := hW.2.1
  have hls : start.length ≤ 9223372036854775807 := hS.2.1
  have hl3 : l03.length ≤ 9223372036854775807 := hC.2.1
  clear hC hS hCs hWs hW
  go_enter Try.func6, Try.ntmps6
  go_wp2_with fail
  have hbx : BoxIs (w.alloc (.cells (bodyC s p A2 n2 c2 A3 l03.length c3) 25)) w.heap.size (bodyC s p A2 n2 c2 A3 l03.length c3) 25 := heap_alloc_new w _
  have hlow := below_alloc (Below.refl w.heap.size w) (.cells (bodyC s p A2 n2 c2 A3 l03.length c3) 25)
  generalize w.alloc (.cells (bodyC s p A2 n2 c2 A3 l03.length c3) 25) = w1 at *
  refine (works_any w1).mono ?_
  rintro e w2 ⟨rfl, hb⟩
  replace hbx := hbx.below hb hbx.lt
  replace hlow := below_then hlow hlow.size hb
  clear hb
  have e0 := hbx.cell 0 _ rfl
  have e1 := hbx.cell 1 _ rfl
  have e2 := hbx.cell 2 _ rfl
  have e3 := hbx.cell 3 _ rfl
  have HBX := Lib.hid hbx
  have HLO := Lib.hid hlow
  clear hbx hlow
  go_wp2_with fail
  refine (over_any s p A2 n2 c2 A3 c3 l03 n Al cl cs w2 (Kd.C_below HC.out HLO.out) (Kd.C_below HCs.out HLO.out)).mono ?_
  rintro e w3 ⟨_, rfl, ⟨o, rfl, ho⟩, hb⟩
  have HBX3 := Lib.hid (HBX.out.below hb HBX.out.lt)
  have HLO3 := Lib.hid (below_then HLO.out HLO.out.size hb)
  clear hb HBX HLO e0 e1 e2 e3
  have e3 := HBX3.out.cell 3 _ rfl
  cases o with
  | true =>
    clear ho
    go_wp2_with fail
    go_ret
    exact ⟨rfl, HLO3.out⟩
  | false =>
    obtain ⟨hfew, hn30, hfc⟩ := ho rfl
    clear ho
    by_cases k0 : start.length > 30
    · have k0' : (start.length : Int) > 30 := by omega
      go_wp2_with fail
      go_ret
      exact ⟨rfl, HLO3.out⟩
    · have k0' : ¬ ((start.length : Int) > 30) := by omega
      by_cases k1 : way.length > 30
      · have k1' : (way.length : Int) > 30 := by omega
        go_wp2_with fail
        go_ret
        exact ⟨rfl, HLO3.out⟩
      · have k1' : ¬ ((way.length : Int) > 30) := by omega
        by_cases k2 : l03.length = 0
        · have k2' : ((l03.length : Int) == 0) = true := by simpa using k2
          go_wp2_with fail
          go_ret
          exact ⟨rfl, HLO3.out⟩
        · have k2' : ((l03.length : Int) == 0) = false := by
            rw [beq_eq_false_iff_ne]
            omega
          by_cases k3 : n < 0
          · go_wp2_with fail
            go_ret
            exact ⟨rfl, HLO3.out⟩
          · obtain ⟨N, rfl⟩ := Int.eq_ofNat_of_zero_le (show 0 ≤ n by omega)
            have hcf := fewC_len2 hfc
            have hfl1 := flow_any s p A2 n2 c2 A3 c3 l03 N As cst start Al cl cs false w3 (Kd.C_below HC.out HLO3.out) hfew hn30 (Kd.C_below HS.out HLO3.out) hs (Kd.C_below HCs.out HLO3.out) hcl hcf HWs.out
            rw [Int.toNat_natCast] at hfl1
            have HFL := Lib.hid hfl1
            have e0 := HBX3.out.cell 0 _ rfl
            have e1 := HBX3.out.cell 1 _ rfl
            have e2 := HBX3.out.cell 2 _ rfl
            have hmk : ∀ W : World, (Instr.makeSlice 26 (.int .i64 N) (.int .i64 N)).run Try.prog W = .ok (.slice (some ⟨W.heap.size, 0, none⟩) N N) (W.alloc (.cells (madeCells #[.bool false] N) 4)) := fun W => run_make_row' (P := Try.prog) 26 4 (.bool false) 1 Try.underlying26 info4 rfl .i64 .i64 N (by omega) (by omega) W
            clear hfl1
            go_wp2_with fail
            refine HFL.out.mono ?_
            rintro e w5 ⟨v5, rfl, hN5, hb5⟩
            obtain ⟨Axx, cxx, rfl⟩ := hN5.slice
            rw [flowL_length, bksOf_length]
            have HLO5 := Lib.hid (below_then HLO3.out HLO3.out.size hb5)
            have hbx5 := HBX3.out.below hb5 HBX3.out.lt
            have hfl2 := flow_any s p A2 n2 c2 A3 c3 l03 N As cst start Al cl cs true w5 (Kd.C_below HC.out HLO5.out) hfew hn30 (Kd.C_below HS.out HLO5.out) hs (Kd.C_below HCs.out HLO5.out) hcl hcf HWs.out
            rw [Int.toNat_natCast] at hfl2
            have HFL2 := Lib.hid hfl2
            have HN5 := Lib.hid hN5
            have HBX5 := Lib.hid hbx5
            clear e0 e1 e2 e3 hb5 hfl2 HFL hN5 hbx5
            have e0 := HBX5.out.cell 0 _ rfl
            have e1 := HBX5.out.cell 1 _ rfl
            have e2 := HBX5.out.cell 2 _ rfl
            have e3 := HBX5.out.cell 3 _ rfl
            go_wp2_with fail
            refine HFL2.out.mono ?_
            rintro e w6 ⟨v6, rfl, hN6, hb6⟩
            obtain ⟨Ayy, cyy, rfl⟩ := hN6.slice
            rw [flowL_length, bksOf_length]
            have HLO6 := Lib.hid (below_then HLO5.out HLO5.out.size hb6)
            have HBX6 := Lib.hid (HBX5.out.below hb6 HBX5.out.lt)
            have hlt6 : w.heap.size < w6.heap.size := HBX6.out.lt
            have HNX := Lib.hid (HN5.out.below hb6)
            have HNY := Lib.hid hN6
            have HFEW := Lib.hid hfew
            have hl30 : l03.length ≤ 30 := (fewB_at hfew).1
            have hcs : ∀ c ∈ cs, c.f2.length ≤ 1000000 ∧ c.f3.length ≤ 1000000 := fun c hc => by
              have h := hfc
              simp only [fewC, Bool.and_eq_true, decide_eq_true_eq, List.all_eq_true] at h
              have := h.2 ⟨c.f0, c.f1, c.f2, c.f3⟩ (by unfold chsOf; exact List.mem_map.2 ⟨c, hc, rfl⟩)
              simp only at this
              omega
            have HCSL := Lib.hid hcs
            have HXL : Hid ((flowL (bksOf l03) N start (chsOf cs) false).length = l03.length) := Lib.hid (by rw [flowL_length, bksOf_length])
            have HYL : Hid ((flowL (bksOf l03) N start (chsOf cs) true).length = l03.length) := Lib.hid (by rw [flowL_length, bksOf_length])
            clear hb6 hN6 HFL2 HN5 HBX5 HLO5 e0 e1 e2 e3 k0' k1' k2' HBX3 HLO3 hfew hfc hcs
            have hown := own_made_of' (enc := Value.bool) (d := false) w6 w6.heap.size 4 N (Nat.le_refl _) (by omega)
            have HOW : Hid ((w6.alloc (.cells (madeCells #[.bool false] N) 4)).ownsRow w6.heap.size 4 1 (.slice (some ⟨w6.heap.size, 0, none⟩) N N) N (encs Value.bool (cpyL N start 0))) := Lib.hid (by
              rw [cpyL_zero]
              rwa [List.length_replicate] at hown)
            have HBA : Hid (Below w6.heap.size w6 (w6.alloc (.cells (madeCells #[.bool false] N) 4))) := Lib.hid (below_alloc (Below.refl _ _) _)
            clear hown
            go_wp2_with fail
            generalize w6.alloc (.cells (madeCells #[.bool false] N) 4) = w7 at *
            go_loopw [16] (fun u16 wr => ∃ i : Nat, u16 = .int .i64 i ∧ i ≤ N ∧ i ≤ start.length ∧ Hid (wr.ownsRow w6.heap.size 4 1 (.slice (some ⟨w6.heap.size, 0, none⟩) N N) N (encs Value.bool (cpyL N start i))) ∧ Hid (Below w6.heap.size w6 wr)) (fun u16 _ => N - (intOf u16).toNat)
            case atStart => exact ⟨0, rfl, Nat.zero_le _, Nat.zero_le _, HOW, HBA⟩
            case round =>
              clear HOW HBA hmk
              obtain ⟨i, rfl, hi1, hi2, HO, HW⟩ := hrel
              by_cases g : i < N ∧ i < start.length
              · obtain ⟨g1, g2⟩ := g
                have HOe := HO.out
                obtain ⟨b, hb⟩ : ∃ b, start[i]? = some b := ⟨_, List.getElem?_eq_getElem g2⟩
                obtain ⟨as_, has, hsc⟩ := Kd.at_bool (Kd.C_below HS.out (below_then HLO6.out HLO6.out.size HW.out)) (i : Int) (by omega) (by omega)
                rw [show rdOf false start (i : Int) = b by simp [rdOf, List.getD_eq_getElem?_getD, hb], Int.toNat_natCast] at hsc
                subst has
                have hset := cpyL_set (N := N) (start := start) g1
                rw [show start.getD i false = b by rw [List.getD_eq_getElem?_getD, hb]; rfl] at hset
                obtain ⟨hst, hgr⟩ := own_store_of (enc := Value.bool) HOe (i : Int) b
                rw [Int.toNat_natCast, hset] at hst
                rw [Int.toNat_natCast] at hgr
                obtain ⟨hcl', hfz⟩ := own_at_of (enc := Value.bool) (d := false) HOe (i : Int) (by omega) (by omega)
                rw [Int.toNat_natCast] at hcl' hfz
                have HST := Lib.hid hst
                have HB2 := Lib.hid (HW.out.grown hgr HW.out.size (fun k hk => by injection hk with hk; omega))
                have g1' : (i : Int) < (N : Int) := by omega
                have g2' : (i : Int) < (start.length : Int) := by omega
                clear hset hst hgr HOe hb HO HW
                go_wp2_with fail
                go_roundw
                case rel => exact ⟨i + 1, by go_num, by omega, by omega, HST, HB2⟩
                case measure => first | (simp [intOf]; omega) | (simp [intOf]; done)
              · have HOB : Hid (OB wr w6.heap.size (.slice (some ⟨w6.heap.size, 0, none⟩) N N) (firstL N start)) := Lib.hid (by
                  have h := HO.out
                  rw [cpyL_done (by omega)] at h
                  unfold OB
                  rwa [show (firstL N start).length = N by simp [firstL]])
                have HINV : Hid (WayInv (bksOf l03) (chsOf cs) start N 0 0 (firstL N start)) := Lib.hid (WayInv.begin (by rw [bksOf_length]; omega))
                clear HO
                have g1 : i < N := by omega
                first | (have g2' : ¬ ((i : Int) < (start.length : Int)) := by omega) | skip
                first | (have g1' : ¬ ((i : Int) < (N : Int)) := by omega) | skip
                first | (have g1'' : (i : Int) < (N : Int) := by omega) | skip
                go_wp2_with fail
                go_loopw [15, 17, 18] (fun u15 u17 u18 wr => ∃ (at_ t : Nat) (now : List Bool), u17 = .int .i64 at_ ∧ u18 = .int .i64 t ∧ t ≤ way.length ∧ Hid (OB wr w6.heap.size u15 now) ∧ Hid (Below w6.heap.size w6 wr) ∧ Hid (WayInv (bksOf l03) (chsOf cs) start N at_ 0 now)) (fun _ _ u18 _ => way.length + 1 - (intOf u18).toNat)
                case atStart => exact ⟨0, 0, _, rfl, rfl, Nat.zero_le _, HOB, HW, HINV⟩
                case round =>
                  clear HOB HINV HW
                  obtain ⟨at_, t, now, rfl, rfl, ht, HO, HW, HI⟩ := hrel
                  obtain ⟨wo, rfl⟩ : ∃ x, x = wr := ⟨wr, rfl⟩
                  have hat : at_ < l03.length := by
                    have := HI.out.rch.lt
                    rwa [bksOf_length] at this
                  have hbx := HBX6.out.below HW.out hlt6
                  have e3 := hbx.cell 3 _ rfl
                  obtain ⟨X, hX⟩ : ∃ X, (flowL (bksOf l03) N start (chsOf cs) false)[at_]? = some X := ⟨_, List.getElem?_eq_getElem (by have := HXL.out; omega)⟩
                  obtain ⟨Y, hY⟩ : ∃ Y, (flowL (bksOf l03) N start (chsOf cs) true)[at_]? = some Y := ⟨_, List.getElem?_eq_getElem (by have := HYL.out; omega)⟩
                  have hXl := flow_row HI.out.rch hX
                  have hYl := flow_row HI.out.rch hY
                  rw [insN_of2 hat] at hXl hYl
                  obtain ⟨gx, cx', Ax, dx, ex, hcx, hnx⟩ := HNX.out.at_ hX
                  obtain ⟨gy, cy', Ay, dy, ey, hcy, hny⟩ := HNY.out.at_ hY
                  injection ex with ex1 ex2 ex3
                  injection ey with ey1 ey2 ey3
                  subst ex1 ey1 ex3 ey3
                  clear ex2 ey2
                  obtain ⟨ad, A0, d0, A16, d16, hA, hcc, _, _⟩ := bk_at HC.out at_ hat
                  subst hA
                  have zb := pw_cell_below (below_then HLO6.out HLO6.out.size HW.out) hcc
                  have hI := (fewB_at HFEW.out).2 (rd_T58 l03 at_) (by simp [rd_T58, List.getElem?_eq_getElem hat, List.getD_eq_getElem?_getD])
                  rw [hXl] at hcx hnx
                  rw [hYl] at hcy hny
                  obtain ⟨I, hIe⟩ : ∃ I, I = (rd_T58 l03 at_).f0.length := ⟨_, rfl⟩
                  rw [← hIe] at zb hXl hYl hI hcx hnx hcy hny
                  have hi30 : I ≤ 30 := hI.1
                  obtain ⟨gr, rfl⟩ := hnx.head (by omega)
                  obtain ⟨gs, rfl⟩ := hny.head (by omega)
                  have HIX := Lib.hid hX
                  have HIY := Lib.hid hY
                  have HNx := Lib.hid hnx
                  have HNy := Lib.hid hny
                  have HIe := Lib.hid hIe
                  have HXl := Lib.hid hXl
                  have HYl := Lib.hid hYl
                  have HCX := Lib.hid hcx
                  have HCY := Lib.hid hcy
                  have zx := pw_cell_below HW.out hcx
                  have zy := pw_cell_below HW.out hcy
                  have hne : (((I + 2 : Nat) : Int) != (I : Int) + 2) = false := by simp
                  have hatd : decide (l03.length ≤ at_) = false := by simp; omega
                  have hatd2 : decide ((l03.length : Int) ≤ (at_ : Int)) = false := by simp; omega
                  have hne2 : ((I : Int) + 2 != IntKind.i64.wrap ((I : Int) + 2)) = false := by rw [wrapK_small (by omega) (by omega)]; simp
                  have htw : (t : Int) ≤ (way.length : Int) := by omega
                  clear hX hY hnx hny hcx hcy hcc hI hIe hXl hYl hbx
                  have hwv : Value.int .i64 (wrap64 ((I : Int) + 2)) = Value.int .i64 ((I : Int) + 2) := congrArg (Value.int .i64) (wrap_small (by omega) (by omega))
                  go_wp2_with fail
                  go_quiet (fail)
                  go_wp2_with fail
                  go_loopw [15, 19] (fun u15 u19 wk => ∃ (k : Nat) (nw : List Bool), u19 = .int .i64 k ∧ k ≤ I + 2 ∧ Hid (OB wk w6.heap.size u15 nw) ∧ Hid (Below w6.heap.size w6 wk) ∧ Hid (WayInv (bksOf l03) (chsOf cs) start N at_ (min k (I + 1)) nw)) (fun _ u19 _ => I + 2 - (intOf u19).toNat)
                  case atStart => exact ⟨0, now, rfl, by omega, Lib.hid (pw_own_below HO.out (pw_below_drewN (Below.refl _ _) _)), Lib.hid (pw_below_drewN HW.out _), HI⟩
                  case round =>
                    clear HO HW HI zx zy zb hne hatd hatd2 hne2 hwv e3
                    obtain ⟨k, nw, rfl, hk, HO, HW, HI⟩ := hrel
                    obtain ⟨wz, rfl⟩ : ∃ x, x = wr := ⟨wr, rfl⟩
                    have zx := pw_cell_below HW.out HCX.out
                    have zy := pw_cell_below HW.out HCY.out
                    have hwkv : Value.int .i64 (wrap64 ((k : Int) + 1)) = Value.int .i64 ((k : Int) + 1) := congrArg (Value.int .i64) (wrap_small (by omega) (by omega))
                    by_cases hlt : k < I + 2
                    · rw [show min k (I + 1) = k by omega] at HI
                      obtain ⟨x, hx⟩ : ∃ x, X[k]? = some x := ⟨_, List.getElem?_eq_getElem (by have := HXl.out; omega)⟩
                      obtain ⟨y, hy⟩ : ∃ y, Y[k]? = some y := ⟨_, List.getElem?_eq_getElem (by have := HYl.out; omega)⟩
                      have hxl := (flowL_flag HIX.out hx).1
                      have hyl := (flowL_flag HIY.out hy).1
                      obtain ⟨Au, du, hcu, hou⟩ := HNx.out.at2 hx
                      obtain ⟨Av, dv, hcv, hov⟩ := HNy.out.at2 hy
                      rw [hxl] at hcu hou
                      rw [hyl] at hcv hov
                      have zu := pw_cell_below HW.out hcu
                      have zv := pw_cell_below HW.out hcv
                      have HCU := Lib.hid hcu
                      have HCV := Lib.hid hcv
                      have HOu := Lib.hid hou
                      have HOv := Lib.hid hov
                      have hnl := HI.out.len
                      obtain ⟨An, cn, hvn, hcn, hRn⟩ := OB.reads HO.out
                      subst hvn
                      rw [hnl] at hcn hRn
                      have HRN := Lib.hid hRn
                      have HFL : Hid (∀ (j : Nat) (a b c : Bool), nw[j]? = some a → x[j]? = some b → y[j]? = some c → (a && !b) = false ∧ (c && !a) = false) := Lib.hid (fun j a b c ha hb hc => HI.out.at_ HIX.out HIY.out hx hy ha hb hc)
                      have q3 : (k : Int) < (I : Int) + 2 := by omega
                      clear hcu hcv hou hov hRn hx hy
                      rw [hnl]
                      go_wp2_with fail
                      go_loopw [20] (fun u20 wk => ∃ j : Nat, u20 = .int .i64 j ∧ j ≤ N ∧ Hid (Below wz.heap.size wz wk)) (fun u20 _ => N - (intOf u20).toNat)
                      case atStart => exact ⟨0, rfl, Nat.zero_le _, Lib.hid (Below.refl _ _)⟩
                      case round =>
                        obtain ⟨j, rfl, hj, HK⟩ := hrel
                        have HWk := Lib.hid (below_then HW.out HW.out.size HK.out)
                        have yx := pw_cell_below HWk.out HCX.out
                        have yy := pw_cell_below HWk.out HCY.out
                        have yu := pw_cell_below HWk.out HCU.out
                        have yv := pw_cell_below HWk.out HCV.out
                        by_cases hlt2 : j < N
                        · obtain ⟨a, ha⟩ : ∃ a, nw[j]? = some a := ⟨_, List.getElem?_eq_getElem (by have := HI.out.len; omega)⟩
                          obtain ⟨b, hb⟩ : ∃ b, x[j]? = some b := ⟨_, List.getElem?_eq_getElem (by omega)⟩
                          obtain ⟨c, hc⟩ : ∃ c, y[j]? = some c := ⟨_, List.getElem?_eq_getElem (by omega)⟩
                          obtain ⟨h1, h2⟩ := HFL.out j a b c ha hb hc
                          obtain ⟨gu, rfl, hcb⟩ := HOu.out.at2 hb
                          obtain ⟨gv, rfl, hcc'⟩ := HOv.out.at2 hc
                          have yb := pw_cell_below HWk.out hcb
                          have yc := pw_cell_below HWk.out hcc'
                          obtain ⟨an, han, hna⟩ := Kd.at_bool (Kd.C_below (show Kd.bool.C wz An nw.length nw by rw [HI.out.len]; exact HRN.out) HK.out) (j : Int) (by omega) (by have := HI.out.len; omega)
                          rw [show rdOf false nw (j : Int) = a by simp [rdOf, List.getD_eq_getElem?_getD, ha], Int.toNat_natCast] at hna
                          subst han
                          have g3 : (j : Int) < (N : Int) := by omega
                          clear ha hb hc hcb hcc'
                          cases a with
                          | true =>
                            obtain rfl : b = true := by simpa using h1
                            cases c <;>
                            · go_wp2_with fail
                              go_roundw
                              case rel => exact ⟨j + 1, by go_num, by omega, HK⟩
                              case measure => first | (simp [intOf]; omega) | (simp [intOf]; done)
                          | false =>
                            obtain rfl : c = false := by simpa using h2
                            go_wp2_with fail
                            go_roundw
                            case rel => exact ⟨j + 1, by go_num, by omega, HK⟩
                            case measure => first | (simp [intOf]; omega) | (simp [intOf]; done)
                        · obtain rfl : N = j := by omega
                          have HRN2 : Hid (Kd.bool.C wr An nw.length nw) := Lib.hid (by rw [HI.out.len]; exact Kd.C_below HRN.out HK.out)
                          have HAFT : Hid (∀ W : World, Below w6.heap.size w6 W → Kd.bool.C W An nw.length nw → Calls Try.prog 22 #[.slice An N cn, .slice Al cs.length cl, .int .i64 at_, .int .i64 k] W fun e w' => ∃ v, e = .returned v ∧ OB w' W.heap.size v (stepL (chsOf cs) at_ k nw) ∧ Below W.heap.size W w') := Lib.hid (fun W hW hR => by
                            have h := after_any An cn nw Al cl cs at_ k W hR (Kd.C_below HCs.out (below_then HLO6.out HLO6.out.size hW)) (by rw [HI.out.len]; omega)
                            rwa [HI.out.len] at h)
                          have hwki : Value.int .i64 (IntKind.i64.wrap ((k : Int) + 1)) = Value.int .i64 ((k : Int) + 1) := congrArg (Value.int .i64) (wrapK_small (by omega) (by omega))
                          clear hlt2 hj yy yu yv hxl hyl
                          by_cases hk1 : k < I + 1
                          · have q4 : (k : Int) + 1 < (I : Int) + 2 := by omega
                            have q5 : decide ((k : Int) + 1 < (I : Int) + 2) = true := by simpa using q4
                            go_wp2_with fail
                            refine (HAFT.out _ ?_ ?_).mono ?_
                            · first | exact HWk.out | exact pw_below_drewN HWk.out _
                            · first | exact HRN2.out | exact Kd.C_below HRN2.out (pw_below_drewN (Below.refl _ _) _)
                            rintro e w8 ⟨v8, rfl, hR8, hb8⟩
                            have HW8 := Lib.hid (below_then HWk.out HWk.out.size hb8)
                            have HO8 : Hid (OB w8 w6.heap.size v8 (stepL (chsOf cs) at_ k nw)) := Lib.hid (own_weaken hR8 HWk.out.size)
                            have HI8 := Lib.hid (HI.out.step)
                            clear hR8 hb8 yx HAFT HRN2 HWk HK
                            go_wp2_with fail
                            go_roundw
                            case rel => exact ⟨k + 1, stepL (chsOf cs) at_ k nw, by go_num, by omega, HO8, HW8, by rw [show min (k + 1) (I + 1) = k + 1 by omega]; exact HI8⟩
                            case measure => first | (simp [intOf]; omega) | (simp [intOf]; done)
                          · obtain rfl : k = I + 1 := by omega
                            have q4 : ¬ (((I + 1 : Nat) : Int) + 1 < (I : Int) + 2) := by omega
                            have q5 : decide (((I + 1 : Nat) : Int) + 1 < (I : Int) + 2) = false := by simp; omega
                            have HO8 : Hid (OB wr w6.heap.size (.slice An N cn) nw) := Lib.hid (by
                              have h := pw_own_below HO.out HK.out
                              rw [show Value.slice An nw.length cn = Value.slice An N cn by rw [HI.out.len]] at h
                              exact h)
                            clear HAFT HRN2
                            go_wp2_with fail
                            go_roundw
                            case rel => exact ⟨I + 2, nw, by go_num, by omega, HO8, HWk, by rw [show min (I + 2) (I + 1) = min (I + 1) (I + 1) by omega]; first | exact HI | (rw [show min (I + 1) (I + 1) = I + 1 by omega]; exact HI)⟩
                            case measure => first | (simp [intOf]; omega) | (simp [intOf]; done)
                    · obtain rfl : k = I + 2 := by omega
                      rw [show min (I + 2) (I + 1) = insN (bksOf l03) at_ + 1 by rw [insN_of2 hat, ← HIe.out]; omega] at HI
                      have hbx := HBX6.out.below HW.out hlt6
                      have e0 := hbx.cell 0 _ rfl
                      have e1 := hbx.cell 1 _ rfl
                      have e2 := hbx.cell 2 _ rfl
                      have e3 := hbx.cell 3 _ rfl
                      have hmem : ∀ q ∈ succI (bksOf l03) at_, 0 ≤ q ∧ q < (l03.length : Int) := fun q hq => by
                        have := mem_succI hq
                        rwa [bksOf_length] at this
                      have htl : (succI (bksOf l03) at_).length ≤ 30 := by
                        have h1 := okTo_le (bksOf l03).length (((bksOf l03)[at_]?.map Bk.to).getD [])
                        rw [rd_T58_get hat] at h1
                        have h2 := ((fewB_at HFEW.out).2 (rd_T58 l03 at_) (by simp [rd_T58, List.getElem?_eq_getElem hat, List.getD_eq_getElem?_getD])).2
                        have h3 : succI (bksOf l03) at_ = okTo (bksOf l03).length (((bksOf l03)[at_]?.map Bk.to).getD []) := rfl
                        rw [h3, rd_T58_get hat]
                        exact Nat.le_trans h1 h2
                      have HEDGE : Hid (∀ Q : Nat, (Q : Int) ∈ succI (bksOf l03) at_ → edge (bksOf l03) at_ Q = true) := Lib.hid (fun Q h => edge_iff.2 h)
                      have hrto := fun (wz : World) (hz : Below w6.heap.size w6 wz) => rto_any s p A2 n2 c2 (some ad) c3 l03 at_ wz (Kd.C_below HC.out (below_then HLO6.out HLO6.out.size hz)) hat HFEW.out
                      generalize succI (bksOf l03) at_ = tos at *
                      have HRTO := Lib.hid hrto
                      have HMEM := Lib.hid hmem
                      clear hlt hk hbx hrto hmem hwkv zy
                      go_wp2_with fail
                      refine (HRTO.out wz HW.out).mono ?_
                      rintro e w8 ⟨vt, rfl, hoi, hb8⟩
                      obtain ⟨At, ct, rfl⟩ := hoi.slice
                      have HW8 := Lib.hid (below_then HW.out HW.out.size hb8)
                      have HO8 := Lib.hid (pw_own_below HO.out hb8)
                      have HOI := Lib.hid hoi
                      clear hb8 hoi HRTO HO e0 e1 e2 e3
                      have hwtv : Value.int .i64 (wrap64 ((t : Int) + 1)) = Value.int .i64 ((t : Int) + 1) := congrArg (Value.int .i64) (wrap_small (by omega) (by omega))
                      by_cases m1 : t = way.length
                      · have m1' : ((t : Int) == (way.length : Int)) = true := by rw [beq_iff_eq]; omega
                        go_wp2_with fail
                        go_ret
                        exact ⟨rfl, below_then HLO6.out HLO6.out.size HW8.out⟩
                      · have m1' : ((t : Int) == (way.length : Int)) = false := by
                          rw [beq_eq_false_iff_ne]; omega
                        by_cases m2 : tos.length = 0
                        · have m2' : ((tos.length : Int) == 0) = true := by simpa using m2
                          go_wp2_with fail
                          go_ret
                          exact ⟨rfl, below_then HLO6.out HLO6.out.size HW8.out⟩
                        · have m2' : ((tos.length : Int) == 0) = false := by
                            rw [beq_eq_false_iff_ne]; omega
                          obtain ⟨a, hwa⟩ : ∃ a, way[t]? = some a := ⟨_, List.getElem?_eq_getElem (by omega)⟩
                          obtain ⟨az, haz, hzc⟩ := Kd.at_int (Kd.C_below HWY.out (below_then HLO6.out HLO6.out.size HW8.out)) (t : Int) (by omega) (by omega)
                          rw [rd_nat, Int.toNat_natCast, show way.getD t 0 = a by rw [List.getD_eq_getElem?_getD, hwa]; rfl] at hzc
                          subst haz
                          obtain ⟨m, hm, hturn⟩ := turn_in a tos.length (by omega) htl
                          have hturnv := congrArg (Value.int .i64) hturn
                          clear hturn
                          obtain ⟨q, hq⟩ : ∃ q, tos[m]? = some q := ⟨_, List.getElem?_eq_getElem hm⟩
                          have hqm := List.mem_of_getElem? hq
                          have hqr := HMEM.out q hqm
                          obtain ⟨Q, rfl⟩ := Int.eq_ofNat_of_zero_le hqr.1
                          obtain ⟨gt, rfl, hct⟩ := HOI.out.at2 hq
                          have HIN := Lib.hid (HI.out.next (HEDGE.out Q hqm))
                          have m3 : ((tos.length : Int) = 0) = False := eq_false (by omega)
                          have m4 : (t : Int) < (way.length : Int) := by omega
                          have m5 : (m : Int) < (tos.length : Int) := by omega
                          clear hwa hq hqm HEDGE HMEM
                          go_wp2_with fail
                          go_roundw
                          case rel => exact ⟨Q, t + 1, nw, rfl, by go_num, by omega, HO8, HW8, HIN⟩
                          case measure => first | (simp [intOf]; omega) | (simp [intOf]; done)
theorem way_any (s : ByteArray) (p : Int) (A2 : Option Addr) (n2 c2 : Nat) (A3 : Option Addr) (c3 : Nat) (l03 : List S58) (n : Int) (As : Option Addr) (cst : Nat) (start : List Bool) (Al : Option Addr) (cl : Nat) (cs : List S66) (Aw : Option Addr) (cw : Nat) (way : List Int) (w : World)
    (hC : Kd.C k58 w A3 l03.length l03) (hS : Kd.bool.C w As start.length start) (hs : start.length ≤ cst) (hCs : Kd.C k66 w Al cs.length cs) (hcl : cs.length ≤ cl) (hWs : ∀ c ∈ cs, inW c.f0 = true ∧ inW c.f1 = true) (hW : (Kd.int .i64).C w Aw way.length way) :
    Calls Try.prog 6 #[bodyV s p A2 n2 c2 A3 l03.length c3, .int .i64 n, .slice As start.length cst, .slice Al cs.length cl, .slice Aw way.length cw] w fun e w' => e = .returned (.bool true) ∧ Below w.heap.size w w' :=
  if h : n ≤ start.length then way_le s p A2 n2 c2 A3 c3 l03 n As cst start Al cl cs Aw cw way w hC hS hs hCs hcl hWs hW h else way_gt s p A2 n2 c2 A3 c3 l03 n As cst start Al cl cs Aw cw way w hC hS hs hCs hcl hWs hW h
end Go.Proofs.Ythgnbeeobhfeaaa.T
end
