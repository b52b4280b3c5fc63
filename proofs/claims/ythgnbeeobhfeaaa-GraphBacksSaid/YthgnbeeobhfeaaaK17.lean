/- Texts of this claim in one file: H43, H44. -/
import Derived.Test.YthgnbeeobhfeaaaK11
import Derived.Test.YthgnbeeobhfeaaaT32
import Derived.Test.YthgnbeeobhfeaaaK6
set_option linter.all false
section
/- Walks: the document's small functions. -/
namespace Go.Proofs.Ythgnbeeobhfeaaa.T
open Go.RowKit Go.Shelf Go.Proofs.YthgnbeeobhfeaaaW.PrintWords Go.Proofs.YthgnbeeobhfeaaaW.PrintLast
attribute [local go_sem] Oper.semAt_some

def chs90 (l : List S90) : List Ch := l.map fun c => ⟨c.f0, c.f1, c.f2, c.f3⟩
def to90 (c : S66) : S90 := ⟨c.f0, c.f1, c.f2, c.f3⟩
theorem chs90_to (cs : List S66) : chs90 (cs.map to90) = chsOf cs := by
  unfold chs90 chsOf
  rw [List.map_map]
  rfl
def bfK (b a : Int) (cs : List S90) (now : List Bool) : List Bool := (hits (chs90 cs) b a).foldl (fun s c => putL s c.kil false) now
def bfG (b a : Int) (cs : List S90) (now : List Bool) : List Bool := (hits (chs90 cs) b a).foldl (fun s c => putL s c.gen true) now
theorem bfK_snoc (b a : Int) (cs : List S90) (c : S90) (now : List Bool) : bfK b a (cs ++ [c]) now = if c.f0 = b ∧ c.f1 = a then putL (bfK b a cs now) c.f3 false else bfK b a cs now := by
  unfold bfK hits chs90
  rw [List.map_append, List.filter_append, List.foldl_append]
  by_cases h0 : c.f0 = b <;> by_cases h1 : c.f1 = a <;> simp [h0, h1]
theorem bfG_snoc (b a : Int) (cs : List S90) (c : S90) (now : List Bool) : bfG b a (cs ++ [c]) now = if c.f0 = b ∧ c.f1 = a then putL (bfG b a cs now) c.f2 true else bfG b a cs now := by
  unfold bfG hits chs90
  rw [List.map_append, List.filter_append, List.foldl_append]
  by_cases h0 : c.f0 = b <;> by_cases h1 : c.f1 = a <;> simp [h0, h1]
theorem bfK_length (b a : Int) (cs : List S90) (now : List Bool) : (bfK b a cs now).length = now.length := foldGen_length _ _ _ _
theorem bfG_length (b a : Int) (cs : List S90) (now : List Bool) : (bfG b a cs now).length = now.length := foldGen_length _ _ _ _
theorem putL_snoc90 (now : List Bool) (l : List Int) (z : Int) (v : Bool) : putL now (l ++ [z]) v = if 0 ≤ z ∧ z < (now.length : Int) then (putL now l v).set z.toNat v else putL now l v := by
  have h : putL now (l ++ [z]) v = if 0 ≤ z ∧ z < ((putL now l v).length : Int) then (putL now l v).set z.toNat v else putL now l v := by
    unfold putL
    rw [List.foldl_append]
    rfl
  rwa [putL_length] at h
theorem take_snoc90 {α : Type} {l : List α} {t : Nat} {z : α} (h : l[t]? = some z) : l.take (t + 1) = l.take t ++ [z] := by
  rw [List.take_succ, h]
  rfl
/-- The first i of N flags are v. -/
def fillL (v : Bool) (N i : Nat) : List Bool := List.replicate i v ++ List.replicate (N - i) false
theorem fillL_length {v : Bool} {N i : Nat} (h : i ≤ N) : (fillL v N i).length = N := by simp [fillL]; omega
theorem fillL_set {v : Bool} {N i : Nat} (h : i < N) : (fillL v N i).set i v = fillL v N (i + 1) := by
  unfold fillL
  rw [List.set_append_right _ _ (by simp), List.length_replicate, Nat.sub_self, show N - i = (N - (i + 1)) + 1 by omega, List.replicate_succ, List.set_cons_zero, List.replicate_succ', List.append_assoc]
  rfl
theorem fillL_zero (v : Bool) (N : Nat) : fillL v N 0 = List.replicate N false := by simp [fillL]
theorem fillL_all (v : Bool) (N : Nat) : fillL v N N = List.replicate N v := by simp [fillL]

set_option maxRecDepth 100000 in
set_option maxHeartbeats 4000000 in
theorem rflags_any (w : World) (n : Int) (v : Bool) (hn : n ≤ 30) :
    Calls Try.prog 35 #[.int .i64 n, .bool v] w fun e w' => ∃ u, e = .returned u ∧ OB w' w.heap.size u (List.replicate n.toNat v) ∧ Below w.heap.size w w' := by
  obtain ⟨N, hN⟩ : ∃ N, N = n.toNat := ⟨_, rfl⟩
  rw [← hN]
  have hmax : (if n < 0 then (0 : Int) else n) = (N : Int) := by split <;> omega
  have hmk : ∀ W : World, (Instr.makeSlice 26 (.int .i64 N) (.int .i64 N)).run Try.prog W = .ok (.slice (some ⟨W.heap.size, 0, none⟩) N N) (W.alloc (.cells (madeCells #[.bool false] N) 4)) := fun W => run_make_row' (P := Try.prog) 26 4 (.bool false) 1 Try.underlying26 info4 rfl .i64 .i64 N (by omega) (by omega) W
  have hown := own_made_of' (enc := Value.bool) (d := false) w w.heap.size 4 N (Nat.le_refl _) (by omega)
  have HOW : Hid (OB (w.alloc (.cells (madeCells #[.bool false] N) 4)) w.heap.size (.slice (some ⟨w.heap.size, 0, none⟩) N N) (fillL v N 0)) := Lib.hid (by
    rw [fillL_zero]
    exact hown)
  have HBA : Hid (Below w.heap.size w (w.alloc (.cells (madeCells #[.bool false] N) 4))) := Lib.hid (below_alloc (Below.refl _ _) _)
  have hN30 : N ≤ 30 := by omega
  clear hown hN
  by_cases hz : n < 0
  · rw [if_pos hz] at hmax
    obtain rfl : 0 = N := by omega
    clear hmax hN30 hn
    rw [show ((0 : Nat) : Int) = 0 from rfl] at hmk
    go_enter Try.func35, Try.ntmps35
    go_wp2_with fail
    clear hmk
    generalize w.alloc (.cells (madeCells #[.bool false] 0) 4) = w7 at *
    go_loopw [6] (fun u wr => ∃ i : Nat, u = .int .i64 i ∧ i ≤ 0 ∧ Hid (OB wr w.heap.size (.slice (some ⟨w.heap.size, 0, none⟩) 0 0) (fillL v 0 i)) ∧ Hid (Below w.heap.size w wr)) (fun u _ => 0 - (intOf u).toNat)
    case atStart => exact ⟨0, rfl, Nat.zero_le _, HOW, HBA⟩
    case round =>
      clear HOW HBA
      obtain ⟨i, rfl, hi, HO, HB⟩ := hrel
      by_cases hlt : i < 0
      · have hoe : wr.ownsRow w.heap.size 4 1 (.slice (some ⟨w.heap.size, 0, none⟩) 0 0) 0 (encs Value.bool (fillL v 0 i)) := by
          have h := HO.out
          unfold OB at h
          rwa [fillL_length (by omega)] at h
        obtain ⟨hst, hgr⟩ := own_store_of (enc := Value.bool) hoe (i : Int) v
        obtain ⟨hcl', hfz⟩ := own_at_of (enc := Value.bool) (d := false) hoe (i : Int) (by omega) (by omega)
        rw [Int.toNat_natCast] at hst hgr hcl' hfz
        rw [fillL_set hlt] at hst
        have HST : Hid (OB (wr.setCell ⟨w.heap.size, i, none⟩ (.bool v)) w.heap.size (.slice (some ⟨w.heap.size, 0, none⟩) 0 0) (fillL v 0 (i + 1))) := Lib.hid (by
          unfold OB
          rw [fillL_length (by omega)]
          exact hst)
        have HB2 := Lib.hid (HB.out.grown hgr HB.out.size (fun k hk => by injection hk with hk; omega))
        clear hoe hst hgr HO HB
        omega
      · obtain rfl : 0 = i := by omega
        clear hlt hi
        rw [fillL_all] at HO
        go_wp2_with fail
        go_ret
        exact ⟨_, rfl, HO.out, HB.out⟩
  · rw [if_neg hz] at hmax
    obtain rfl : n = (N : Int) := hmax
    go_enter Try.func35, Try.ntmps35
    go_wp2_with fail
    clear hmk
    generalize w.alloc (.cells (madeCells #[.bool false] N) 4) = w7 at *
    go_loopw [6] (fun u wr => ∃ i : Nat, u = .int .i64 i ∧ i ≤ N ∧ Hid (OB wr w.heap.size (.slice (some ⟨w.heap.size, 0, none⟩) N N) (fillL v N i)) ∧ Hid (Below w.heap.size w wr)) (fun u _ => N - (intOf u).toNat)
    case atStart => exact ⟨0, rfl, Nat.zero_le _, HOW, HBA⟩
    case round =>
      clear HOW HBA
      obtain ⟨i, rfl, hi, HO, HB⟩ := hrel
      by_cases hlt : i < N
      · have hoe : wr.ownsRow w.heap.size 4 1 (.slice (some ⟨w.heap.size, 0, none⟩) N N) N (encs Value.bool (fillL v N i)) := by
          have h := HO.out
          unfold OB at h
          rwa [fillL_length (by omega)] at h
        obtain ⟨hst, hgr⟩ := own_store_of (enc := Value.bool) hoe (i : Int) v
        obtain ⟨hcl', hfz⟩ := own_at_of (enc := Value.bool) (d := false) hoe (i : Int) (by omega) (by omega)
        rw [Int.toNat_natCast] at hst hgr hcl' hfz
        rw [fillL_set hlt] at hst
        have HST : Hid (OB (wr.setCell ⟨w.heap.size, i, none⟩ (.bool v)) w.heap.size (.slice (some ⟨w.heap.size, 0, none⟩) N N) (fillL v N (i + 1))) := Lib.hid (by
          unfold OB
          rw [fillL_length (by omega)]
          exact hst)
        have HB2 := Lib.hid (HB.out.grown hgr HB.out.size (fun k hk => by injection hk with hk; omega))
        clear hoe hst hgr HO HB
        go_wp2_with fail
        go_roundw
        case rel => exact ⟨i + 1, by go_num, by omega, HST, HB2⟩
        case measure => first | (simp [intOf]; omega) | (simp [intOf]; done)
      · obtain rfl : N = i := by omega
        clear hlt hi
        rw [fillL_all] at HO
        go_wp2_with fail
        go_ret
        exact ⟨_, rfl, HO.out, HB.out⟩

set_option maxRecDepth 100000 in
set_option maxHeartbeats 4000000 in
theorem rsame_any (w : World) (A B : Option Addr) (ca cb : Nat) (x y : List Bool) (hx : Kd.bool.C w A x.length x) (hy : Kd.bool.C w B y.length y) (hl : x.length = y.length) :
    Calls Try.prog 26 #[.slice A x.length ca, .slice B y.length cb] w fun e w' => e = .returned (.bool (decide (x = y))) ∧ Drawn0 w w' := by
  have hlx : x.length ≤ 9223372036854775807 := hx.2.1
  have HX := Lib.hid hx
  have HY := Lib.hid hy
  have HL := Lib.hid hl
  obtain ⟨n, hn⟩ : ∃ n, n = x.length := ⟨_, rfl⟩
  rw [← hl, ← hn]
  rw [← hn] at hlx
  have HNX := Lib.hid hn
  clear hx hy hl hn
  go_enter Try.func26, Try.ntmps26
  go_wp2_with fail
  go_loopw [5] (fun u wr => ∃ i : Nat, u = .int .i64 i ∧ i ≤ n ∧ Hid (x.take i = y.take i) ∧ Hid (Drawn0 w wr)) (fun u _ => n - (intOf u).toNat)
  case atStart => exact ⟨0, rfl, Nat.zero_le _, Lib.hid rfl, Lib.hid ⟨0, rfl⟩⟩
  case round =>
    obtain ⟨i, rfl, hi, HT, HD⟩ := hrel
    by_cases hlt : i < n
    · obtain ⟨a, ha⟩ : ∃ a, x[i]? = some a := ⟨_, List.getElem?_eq_getElem (by have := HNX.out; omega)⟩
      obtain ⟨b, hb⟩ : ∃ b, y[i]? = some b := ⟨_, List.getElem?_eq_getElem (by have := HNX.out; have := HL.out; omega)⟩
      obtain ⟨ax, hax, hcx⟩ := Kd.at_bool (Kd.C_below HX.out HD.out.below) (i : Int) (by omega) (by have := HNX.out; omega)
      obtain ⟨ay, hay, hcy⟩ := Kd.at_bool (Kd.C_below HY.out HD.out.below) (i : Int) (by omega) (by have := HNX.out; have := HL.out; omega)
      rw [show rdOf false x (i : Int) = a by simp [rdOf, List.getD_eq_getElem?_getD, ha], Int.toNat_natCast] at hcx
      rw [show rdOf false y (i : Int) = b by simp [rdOf, List.getD_eq_getElem?_getD, hb], Int.toNat_natCast] at hcy
      subst hax hay
      by_cases e : a = b
      · subst e
        have HT2 : Hid (x.take (i + 1) = y.take (i + 1)) := Lib.hid (by rw [List.take_succ, List.take_succ, ha, hb, HT.out])
        clear ha hb HT
        cases a <;>
        · go_wp2_with fail
          try (go_quiet (fail); go_wp2_with fail)
          go_roundw
          case rel => exact ⟨i + 1, by go_num, by omega, HT2, by first | exact HD | exact Lib.hid (Drawn0.step HD.out _)⟩
          case measure => first | (simp [intOf]; omega) | (simp [intOf]; done)
      · have HNE : Hid (decide (x = y) = false) := Lib.hid (by
          rw [decide_eq_false_iff_not]
          intro h
          rw [h, hb] at ha
          exact e (Option.some.inj ha).symm)
        clear ha hb HT
        cases a <;> cases b <;> first
          | exact absurd rfl e
          | (clear e
             go_wp2_with fail
             try (go_quiet (fail); go_wp2_with fail)
             go_ret
             exact ⟨by rw [HNE.out]; rfl, by first | exact HD.out | exact Drawn0.step HD.out _⟩)
    · obtain rfl : n = i := by omega
      have HEQ : Hid (decide (x = y) = true) := Lib.hid (by
        rw [decide_eq_true_iff]
        have h := HT.out
        have h1 := HNX.out
        have h2 := HL.out
        rwa [h1, List.take_length, h2, List.take_length] at h)
      clear hlt hi HT
      go_wp2_with fail
      go_ret
      exact ⟨by rw [HEQ.out]; rfl, HD.out⟩

set_option maxRecDepth 100000 in
set_option maxHeartbeats 4000000 in
theorem rput_any (W0 W : World) (Ao : Option Addr) (n co : Nat) (x : List Bool) (A : Option Addr) (c : Nat) (l : List Int) (v : Bool) (hb : Below W0.heap.size W0 W) (ho : OB W W0.heap.size (.slice Ao n co) x) (hxn : x.length = n) (hn : n ≤ 1000000) (hC : (Kd.int .i64).C W0 A l.length l) :
    Calls Try.prog 54 #[.slice Ao n co, .slice A l.length c, .bool v] W fun e W' => e = .returned (.tuple #[]) ∧ OB W' W0.heap.size (.slice Ao n co) (putL x l v) ∧ Below W0.heap.size W0 W' := by
  have hlen : l.length ≤ 9223372036854775807 := hC.2.1
  have HR := Lib.hid hC
  have HO0 : Hid (OB W W0.heap.size (.slice Ao n co) (putL x (l.take 0) v)) := Lib.hid ho
  have HB0 := Lib.hid hb
  have HXN := Lib.hid hxn
  clear hC ho hb hxn
  go_enter Try.func54, Try.ntmps54
  go_wp2_with fail
  go_loopw [6] (fun u wr => ∃ t : Nat, u = .int .i64 t ∧ t ≤ l.length ∧ Hid (OB wr W0.heap.size (.slice Ao n co) (putL x (l.take t) v)) ∧ Hid (Below W0.heap.size W0 wr)) (fun u _ => l.length - (intOf u).toNat)
  case atStart => exact ⟨0, rfl, Nat.zero_le _, HO0, HB0⟩
  case round =>
    clear HO0 HB0
    obtain ⟨t, rfl, ht, HO, HB⟩ := hrel
    by_cases hlt : t < l.length
    · obtain ⟨z, hz⟩ : ∃ z, l[t]? = some z := ⟨_, List.getElem?_eq_getElem hlt⟩
      obtain ⟨az, haz, hzc⟩ := Kd.at_int (Kd.C_below HR.out HB.out) (t : Int) (by omega) (by omega)
      rw [rd_nat, Int.toNat_natCast, show l.getD t 0 = z by rw [List.getD_eq_getElem?_getD, hz]; rfl] at hzc
      subst haz
      have hpn := putL_snoc90 x (l.take t) z v
      rw [← take_snoc90 hz, HXN.out] at hpn
      have HPN := Lib.hid hpn
      clear hz hpn
      by_cases c0 : 0 ≤ z
      · by_cases c1 : z < (n : Int)
        · obtain ⟨Z, rfl⟩ := Int.eq_ofNat_of_zero_le c0
          have hPl : (putL x (l.take t) v).length = n := by rw [putL_length, HXN.out]
          obtain ⟨q, hq⟩ : ∃ q, (putL x (l.take t) v)[Z]? = some q := ⟨_, List.getElem?_eq_getElem (by omega)⟩
          obtain ⟨g, rfl, hg⟩ := OB.at2 HO.out hq
          have hoe : wr.ownsRow W0.heap.size 4 1 (.slice (some ⟨g, 0, none⟩) n co) n (encs Value.bool (putL x (l.take t) v)) := by
            have h := HO.out
            unfold OB at h
            rwa [hPl] at h
          obtain ⟨hst, hgr⟩ := own_store_of (enc := Value.bool) hoe (Z : Int) v
          obtain ⟨hcl', hfz⟩ := own_at_of (enc := Value.bool) (d := false) hoe (Z : Int) (by omega) (by omega)
          rw [Int.toNat_natCast] at hst hgr hcl' hfz
          have HST : Hid (OB (wr.setCell ⟨g, Z, none⟩ (.bool v)) W0.heap.size (.slice (some ⟨g, 0, none⟩) n co) (putL x (l.take (t + 1)) v)) := Lib.hid (by
            have h := HPN.out
            rw [if_pos ⟨by omega, c1⟩, Int.toNat_natCast] at h
            unfold OB
            rw [h, List.length_set, hPl]
            exact hst)
          have HB2 := Lib.hid (HB.out.grown hgr HB.out.size (fun k hk => by injection hk with hk; have := own_base hoe g rfl; omega))
          clear hPl hq hoe hst hgr hg HO HB HPN
          go_wp2_with fail
          go_roundw
          case rel => exact ⟨t + 1, by go_num, by omega, HST, HB2⟩
          case measure => first | (simp [intOf]; omega) | (simp [intOf]; done)
        · have HO2 : Hid (OB wr W0.heap.size (.slice Ao n co) (putL x (l.take (t + 1)) v)) := Lib.hid (by
            rw [HPN.out, if_neg (fun h => c1 h.2)]
            exact HO.out)
          clear HPN HO
          go_wp2_with fail
          go_roundw
          case rel => exact ⟨t + 1, by go_num, by omega, HO2, HB⟩
          case measure => first | (simp [intOf]; omega) | (simp [intOf]; done)
      · have HO2 : Hid (OB wr W0.heap.size (.slice Ao n co) (putL x (l.take (t + 1)) v)) := Lib.hid (by
          rw [HPN.out, if_neg (fun h => c0 h.1)]
          exact HO.out)
        clear HPN HO
        go_wp2_with fail
        go_roundw
        case rel => exact ⟨t + 1, by go_num, by omega, HO2, HB⟩
        case measure => first | (simp [intOf]; omega) | (simp [intOf]; done)
    · obtain rfl : t = l.length := by omega
      rw [List.take_length] at HO
      clear hlt ht
      go_wp2_with fail
      first | go_end0 | refine bodyPost_ret (results_none rfl _ _ _) rfl ?_
      all_goals first | exact ⟨rfl, HO.out, HB.out⟩ | skip

set_option maxRecDepth 100000 in
set_option maxHeartbeats 8000000 in
theorem rbefore_any (A : Option Addr) (c0 : Nat) (now : List Bool) (Al : Option Addr) (cl : Nat) (cs : List S90) (b a : Int) (w : World) (hA : Kd.bool.C w A now.length now) (hc0 : now.length ≤ c0) (hC : Kd.C k90 w Al cs.length cs) (hn : now.length ≤ 1000000) :
    Calls Try.prog 47 #[.slice A now.length c0, .slice Al cs.length cl, .int .i64 b, .int .i64 a] w fun e w' => ∃ v, e = .returned v ∧ OB w' w.heap.size v (stepL (chs90 cs) b a now) ∧ Below w.heap.size w w' := by
  have hlc : cs.length ≤ 9223372036854775807 := hC.2.1
  have HC := Lib.hid hC
  have hcop := cocoonref11_copied.calls A c0 now now w hA hc0 (by unfold cocoonref11_copied.f; rw [Option.bind_some, if_pos (by simp; omega)]; rfl)
  have HCOP := Lib.hid hcop
  obtain ⟨n0, hn0⟩ : ∃ n0, n0 = now.length := ⟨_, rfl⟩
  have HN0 := Lib.hid hn0
  have hn0' : n0 ≤ 1000000 := by omega
  clear hC hA hcop hn0
  go_enter Try.func47, Try.ntmps47
  go_wp2_with fail
  refine HCOP.out.mono ?_
  rintro e w6 ⟨v, rfl, ho, hb⟩
  have HO : Hid (OB w6 w.heap.size v (bfK b a (cs.take 0) now)) := Lib.hid (Kd.own_of_R ho)
  have HB := Lib.hid hb
  clear ho hb HCOP
  obtain ⟨Ao, co, rfl⟩ : ∃ A c, v = .slice A n0 c := by
    obtain ⟨A, c, h⟩ := own_slice HO.out
    exact ⟨A, c, by rw [h, bfK_length, HN0.out]⟩
  go_wp2_with fail
  go_loopw [10] (fun u wr => ∃ i : Nat, u = .int .i64 i ∧ i ≤ cs.length ∧ Hid (OB wr w.heap.size (.slice Ao n0 co) (bfK b a (cs.take i) now)) ∧ Hid (Below w.heap.size w wr)) (fun u _ => cs.length - (intOf u).toNat)
  case atStart => exact ⟨0, rfl, Nat.zero_le _, HO, HB⟩
  case round =>
    clear HO HB
    obtain ⟨i, rfl, hi, HO, HB⟩ := hrel
    by_cases hlt : i < cs.length
    · have hci : cs[i]? = some (rd_T90 cs i) := by simp [rd_T90, List.getElem?_eq_getElem hlt, List.getD_eq_getElem?_getD]
      obtain ⟨ad, A2, d2, A3, d3, rfl, hx0, hx1, hx2, hx3, hl2, hr2, hl3, hr3⟩ := at_T90 HC.out (i : Int) (by omega) (by omega)
      rw [Int.toNat_natCast] at hx0 hx1 hx2 hx3
      have HR := Lib.hid hr3
      have HTS := Lib.hid (take_snoc90 hci)
      clear hci hr2 hr3
      obtain ⟨cc, hcc⟩ : ∃ cc, cc = rd_T90 cs i := ⟨_, rfl⟩
      rw [← hcc] at hx0 hx1 hx2 hx3 HR HTS
      have y0 := pw_cell_below HB.out hx0
      have y1 := pw_cell_below HB.out hx1
      have y3 := pw_cell_below HB.out hx3
      have hsn := bfK_snoc b a (cs.take i) cc now
      have hsl : (bfK b a (cs.take i) now).length = n0 := by rw [bfK_length, HN0.out]
      rw [← HTS.out] at hsn
      have HSN := Lib.hid hsn
      have HSL := Lib.hid hsl
      clear hsn hsl hcc hx0 hx1 hx2 hx3 hl2 hl3 HTS
      by_cases e1 : cc.f0 = b
      · have d1 : (cc.f0 == b) = true := by simpa using e1
        by_cases e2 : cc.f1 = a
        · have d2' : (cc.f1 == a) = true := by simpa using e2
          have hput := fun W (hW : Below w.heap.size w W) ho => rput_any w W Ao n0 co (bfK b a (cs.take i) now) A3 d3 cc.f3 false hW ho HSL.out hn0' HR.out
          have HPUT := Lib.hid hput
          clear hput
          go_wp2_with fail
          try (go_quiet (fail); go_wp2_with fail)
          refine (HPUT.out _ (by first | exact HB.out | exact pw_below_drewN HB.out _) (by first | exact HO.out | exact pw_own_below HO.out (pw_below_drewN (Below.refl _ _) _))).mono ?_
          rintro e w8 ⟨rfl, ho8, hb8⟩
          have HO8 : Hid (OB w8 w.heap.size (.slice Ao n0 co) (bfK b a (cs.take (i + 1)) now)) := Lib.hid (by rw [HSN.out, if_pos ⟨e1, e2⟩]; exact ho8)
          have HB8 := Lib.hid hb8
          clear ho8 hb8 HO HB HPUT HSN y0 y1 y3
          go_wp2_with fail
          go_roundw
          case rel => exact ⟨i + 1, by go_num, by omega, HO8, HB8⟩
          case measure => first | (simp [intOf]; omega) | (simp [intOf]; done)
        · have d2' : (cc.f1 == a) = false := by simpa using e2
          have HO8 : Hid (OB wr w.heap.size (.slice Ao n0 co) (bfK b a (cs.take (i + 1)) now)) := Lib.hid (by rw [HSN.out, if_neg (fun h => e2 h.2)]; exact HO.out)
          clear HSN HO
          go_wp2_with fail
          try (go_quiet (fail); go_wp2_with fail)
          go_roundw
          case rel => exact ⟨i + 1, by go_num, by omega, by first | exact HO8 | exact Lib.hid (pw_own_below HO8.out (pw_below_drewN (Below.refl _ _) _)), by first | exact HB | exact Lib.hid (pw_below_drewN HB.out _)⟩
          case measure => first | (simp [intOf]; omega) | (simp [intOf]; done)
      · have d1 : (cc.f0 == b) = false := by simpa using e1
        have HO8 : Hid (OB wr w.heap.size (.slice Ao n0 co) (bfK b a (cs.take (i + 1)) now)) := Lib.hid (by rw [HSN.out, if_neg (fun h => e1 h.1)]; exact HO.out)
        clear HSN HO
        go_wp2_with fail
        try (go_quiet (fail); go_wp2_with fail)
        go_roundw
        case rel => exact ⟨i + 1, by go_num, by omega, by first | exact HO8 | exact Lib.hid (pw_own_below HO8.out (pw_below_drewN (Below.refl _ _) _)), by first | exact HB | exact Lib.hid (pw_below_drewN HB.out _)⟩
        case measure => first | (simp [intOf]; omega) | (simp [intOf]; done)
    · obtain rfl : i = cs.length := by omega
      rw [List.take_length] at HO
      clear hlt hi
      go_wp2_with fail
      have HO2 : Hid (OB wr w.heap.size (.slice Ao n0 co) (bfG b a (cs.take 0) (bfK b a cs now))) := HO
      clear HO
      have HO := HO2
      clear HO2
      go_loopw [11] (fun u wr => ∃ i : Nat, u = .int .i64 i ∧ i ≤ cs.length ∧ Hid (OB wr w.heap.size (.slice Ao n0 co) (bfG b a (cs.take i) (bfK b a cs now))) ∧ Hid (Below w.heap.size w wr)) (fun u _ => cs.length - (intOf u).toNat)
      case atStart => exact ⟨0, rfl, Nat.zero_le _, HO, HB⟩
      case round =>
        clear HO HB
        obtain ⟨i, rfl, hi, HO, HB⟩ := hrel
        by_cases hlt : i < cs.length
        · have hci : cs[i]? = some (rd_T90 cs i) := by simp [rd_T90, List.getElem?_eq_getElem hlt, List.getD_eq_getElem?_getD]
          obtain ⟨ad, A2, d2, A3, d3, rfl, hx0, hx1, hx2, hx3, hl2, hr2, hl3, hr3⟩ := at_T90 HC.out (i : Int) (by omega) (by omega)
          rw [Int.toNat_natCast] at hx0 hx1 hx2 hx3
          have HR := Lib.hid hr2
          have HTS := Lib.hid (take_snoc90 hci)
          clear hci hr2 hr3
          obtain ⟨cc, hcc⟩ : ∃ cc, cc = rd_T90 cs i := ⟨_, rfl⟩
          rw [← hcc] at hx0 hx1 hx2 hx3 HR HTS
          have y0 := pw_cell_below HB.out hx0
          have y1 := pw_cell_below HB.out hx1
          have y3 := pw_cell_below HB.out hx2
          have hsn := bfG_snoc b a (cs.take i) cc (bfK b a cs now)
          have hsl : (bfG b a (cs.take i) (bfK b a cs now)).length = n0 := by rw [bfG_length, bfK_length, HN0.out]
          rw [← HTS.out] at hsn
          have HSN := Lib.hid hsn
          have HSL := Lib.hid hsl
          clear hsn hsl hcc hx0 hx1 hx2 hx3 hl2 hl3 HTS
          by_cases e1 : cc.f0 = b
          · have d1 : (cc.f0 == b) = true := by simpa using e1
            by_cases e2 : cc.f1 = a
            · have d2' : (cc.f1 == a) = true := by simpa using e2
              have hput := fun W (hW : Below w.heap.size w W) ho => rput_any w W Ao n0 co (bfG b a (cs.take i) (bfK b a cs now)) A2 d2 cc.f2 true hW ho HSL.out hn0' HR.out
              have HPUT := Lib.hid hput
              clear hput
              go_wp2_with fail
              try (go_quiet (fail); go_wp2_with fail)
              refine (HPUT.out _ (by first | exact HB.out | exact pw_below_drewN HB.out _) (by first | exact HO.out | exact pw_own_below HO.out (pw_below_drewN (Below.refl _ _) _))).mono ?_
              rintro e w8 ⟨rfl, ho8, hb8⟩
              have HO8 : Hid (OB w8 w.heap.size (.slice Ao n0 co) (bfG b a (cs.take (i + 1)) (bfK b a cs now))) := Lib.hid (by rw [HSN.out, if_pos ⟨e1, e2⟩]; exact ho8)
              have HB8 := Lib.hid hb8
              clear ho8 hb8 HO HB HPUT HSN y0 y1 y3
              go_wp2_with fail
              go_roundw
              case rel => exact ⟨i + 1, by go_num, by omega, HO8, HB8⟩
              case measure => first | (simp [intOf]; omega) | (simp [intOf]; done)
            · have d2' : (cc.f1 == a) = false := by simpa using e2
              have HO8 : Hid (OB wr w.heap.size (.slice Ao n0 co) (bfG b a (cs.take (i + 1)) (bfK b a cs now))) := Lib.hid (by rw [HSN.out, if_neg (fun h => e2 h.2)]; exact HO.out)
              clear HSN HO
              go_wp2_with fail
              try (go_quiet (fail); go_wp2_with fail)
              go_roundw
              case rel => exact ⟨i + 1, by go_num, by omega, by first | exact HO8 | exact Lib.hid (pw_own_below HO8.out (pw_below_drewN (Below.refl _ _) _)), by first | exact HB | exact Lib.hid (pw_below_drewN HB.out _)⟩
              case measure => first | (simp [intOf]; omega) | (simp [intOf]; done)
          · have d1 : (cc.f0 == b) = false := by simpa using e1
            have HO8 : Hid (OB wr w.heap.size (.slice Ao n0 co) (bfG b a (cs.take (i + 1)) (bfK b a cs now))) := Lib.hid (by rw [HSN.out, if_neg (fun h => e1 h.1)]; exact HO.out)
            clear HSN HO
            go_wp2_with fail
            try (go_quiet (fail); go_wp2_with fail)
            go_roundw
            case rel => exact ⟨i + 1, by go_num, by omega, by first | exact HO8 | exact Lib.hid (pw_own_below HO8.out (pw_below_drewN (Below.refl _ _) _)), by first | exact HB | exact Lib.hid (pw_below_drewN HB.out _)⟩
            case measure => first | (simp [intOf]; omega) | (simp [intOf]; done)
        · obtain rfl : i = cs.length := by omega
          rw [List.take_length] at HO
          clear hlt hi
          go_wp2_with fail
          go_ret
          exact ⟨_, rfl, HO.out, HB.out⟩

theorem elem90 {w W : World} {u : Value} {ms : List S90} {Ak Ag : Option Addr} {ck cg : Nat} {ks gs : List Int} {b s : Int} (hN : Kd.N k90 90 W w.heap.size (fun _ => True) u ms) (hb : Below w.heap.size w W)
    (hG : (Kd.int .i64).C w Ag gs.length gs) (hg : gs.length ≤ cg) (hK : (Kd.int .i64).C w Ak ks.length ks) (hk : ks.length ≤ ck) :
    Kd.FK k90 W (fun k => some k ≠ u.ownBlock) ⟨b, s, gs, ks⟩ [.int .i64 b, .int .i64 s, .slice Ag gs.length cg, .slice Ak ks.length ck] := by
  have hf : ∀ (A : Option Addr) (l : List Int), (Kd.int .i64).C w A l.length l → Kd.F (Kd.int .i64) W (fun k => some k ≠ u.ownBlock) A l.length l := fun A l h =>
    Kd.F_mono (Kd.F_below (Kd.C_F (Kd.heap_int .i64) h) hb) (fun k hk he => by
      have := Kd.N_base hN k he.symm
      omega)
  exact k90_mkF W _ ⟨b, s, gs, ks⟩ hg (hf _ _ hG) hk (hf _ _ hK)
set_option maxRecDepth 100000 in
set_option maxHeartbeats 8000000 in
theorem rchanges_any (Al : Option Addr) (cl : Nat) (cs : List S66) (w : World) (hC : Kd.C k66 w Al cs.length cs) (hl : cs.length ≤ 1000) :
    Calls Try.prog 15 #[.slice Al cs.length cl] w fun e w' => ∃ A c, e = .returned (.slice A cs.length c) ∧ cs.length ≤ c ∧ Kd.C k90 w' A cs.length (cs.map to90) ∧ Below w.heap.size w w' := by
  have HC := Lib.hid hC
  clear hC
  go_enter Try.func15, Try.ntmps15
  go_wp2_with fail
  go_loopw [3, 4] (fun u3 u4 wr => ∃ i : Nat, u4 = .int .i64 i ∧ i ≤ cs.length ∧ Hid (Kd.N k90 90 wr w.heap.size (fun _ => True) u3 ((cs.take i).map to90)) ∧ Hid (Below w.heap.size w wr)) (fun _ u _ => cs.length - (intOf u).toNat)
  case atStart => exact ⟨0, rfl, Nat.zero_le _, Lib.hid (Kd.N_nil _ _ _ _ _), Lib.hid (Below.refl _ _)⟩
  case round =>
    obtain ⟨i, rfl, hi, HN, HB⟩ := hrel
    by_cases hlt : i < cs.length
    · have hci : cs[i]? = some (rd_T66 cs i) := by simp [rd_T66, List.getElem?_eq_getElem hlt, List.getD_eq_getElem?_getD]
      obtain ⟨ad, Ag, dg, Ak, dk, rfl, hx0, hx1, hx2, hx3, hl2, hr2, hl3, hr3⟩ := at_T66 HC.out (i : Int) (by omega) (by omega)
      rw [Int.toNat_natCast] at hx0 hx1 hx2 hx3
      have HTS : Hid ((cs.take (i + 1)).map to90 = (cs.take i).map to90 ++ [to90 (rd_T66 cs i)]) := Lib.hid (by rw [take_snoc90 hci, List.map_append]; rfl)
      obtain ⟨cc, hcc⟩ : ∃ cc, cc = rd_T66 cs i := ⟨_, rfl⟩
      rw [← hcc] at hx0 hx1 hx2 hx3 hl2 hr2 hl3 hr3 HTS
      have HEL := Lib.hid (elem90 (b := cc.f0) (s := cc.f1) (Kd.N_drew HN.out) (below_drew HB.out) hr2 hl2 hr3 hl3)
      have HX0 := Lib.hid hx0
      have HX1 := Lib.hid hx1
      have HX2 := Lib.hid hx2
      have HX3 := Lib.hid hx3
      have hml : ((cs.take i).map to90).length ≤ 1000 := by
        rw [List.length_map]
        have := List.length_take_le i cs
        omega
      clear hci hcc hx0 hx1 hx2 hx3 hr2 hr3 hl2 hl3
      go_wp2_with fail
      refine start_ (n := 25) (S := fun w' => w'.cell? (ad.add (i * 4)) = some (.int .i64 cc.f0) ∧ w'.cell? ⟨(ad.add (i * 4)).block, (ad.add (i * 4)).off + 1, none⟩ = some (.int .i64 cc.f1) ∧ w'.cell? ⟨(ad.add (i * 4)).block, (ad.add (i * 4)).off + 2, none⟩ = some (.slice Ag cc.f2.length dg) ∧ w'.cell? ⟨(ad.add (i * 4)).block, (ad.add (i * 4)).off + 3, none⟩ = some (.slice Ak cc.f3.length dk)) (ds := []) #[false, false, false, false, false, false, false, false, false, false, false, false, false, false, false, false, false, false, false, false, false, false, false, false, false] (by kernel_rfl) rfl rfl ⟨pw_cell_below (below_drew HB.out) HX0.out, pw_cell_below (below_drew HB.out) HX1.out, pw_cell_below (below_drew HB.out) HX2.out, pw_cell_below (below_drew HB.out) HX3.out⟩ (fun hHeld => ?_)
      refine pure_ (i := 0) (N := some 11) (v := ?_) (a' := ?_) #[true, false, false, false, false, false, false, false, false, false, false, false, false, false, false, false, false, false, false, false, false, false, false, false, false] rfl rfl (by kernel_rfl) (fun _ _ _ h => h) (Or.inl ⟨by rfl, ?_⟩) ?_ ?_
      rotate_left
      · intro w'
        go_simp
        with_reducible rfl
      rotate_left
      · simp only [Act.put, List.setIfInBounds_toArray, List.set_cons_zero, List.set_cons_succ, i64_w, i32_w]
        rfl
      refine pure_ (i := 1) (N := some 12) (v := ?_) (a' := ?_) #[true, true, false, false, false, false, false, false, false, false, false, false, false, false, false, false, false, false, false, false, false, false, false, false, false] rfl rfl (by kernel_rfl) (fun _ _ _ h => h) (Or.inl ⟨by rfl, ?_⟩) ?_ ?_
      rotate_left
      · intro w'
        go_simp
        with_reducible rfl
      rotate_left
      · simp only [Act.put, List.setIfInBounds_toArray, List.set_cons_zero, List.set_cons_succ, i64_w, i32_w]
        rfl
      refine pure_ (i := 2) (N := some 13) (v := ?_) (a' := ?_) #[true, true, true, false, false, false, false, false, false, false, false, false, false, false, false, false, false, false, false, false, false, false, false, false, false] rfl rfl (by kernel_rfl) (fun _ _ _ h => h) (Or.inl ⟨by rfl, ?_⟩) ?_ ?_
      rotate_left
      · intro w'
        go_simp
        with_reducible rfl
      rotate_left
      · simp only [Act.put, List.setIfInBounds_toArray, List.set_cons_zero, List.set_cons_succ, i64_w, i32_w]
        rfl
      refine pure_ (i := 3) (N := some 14) (v := ?_) (a' := ?_) #[true, true, true, true, false, false, false, false, false, false, false, false, false, false, false, false, false, false, false, false, false, false, false, false, false] rfl rfl (by kernel_rfl) (fun _ _ _ h => h) (Or.inl ⟨by rfl, ?_⟩) ?_ ?_
      rotate_left
      · intro w'
        go_simp
        with_reducible rfl
      rotate_left
      · simp only [Act.put, List.setIfInBounds_toArray, List.set_cons_zero, List.set_cons_succ, i64_w, i32_w]
        rfl
      refine pure_ (i := 4) (N := some 15) (v := ?_) (a' := ?_) #[true, true, true, true, true, false, false, false, false, false, false, false, false, false, false, false, false, false, false, false, false, false, false, false, false] rfl rfl (by kernel_rfl) (fun _ _ _ h => h) (Or.inl ⟨by rfl, ?_⟩) ?_ ?_
      rotate_left
      · intro w'
        go_simp
        with_reducible rfl
      rotate_left
      · simp only [Act.put, List.setIfInBounds_toArray, List.set_cons_zero, List.set_cons_succ, i64_w, i32_w]
        rfl
      refine pure_ (i := 6) (N := some 17) (v := ?_) (a' := ?_) #[true, true, true, true, true, false, true, false, false, false, false, false, false, false, false, false, false, false, false, false, false, false, false, false, false] rfl rfl (by kernel_rfl) (fun _ _ _ h => h) (Or.inl ⟨by rfl, ?_⟩) ?_ ?_
      rotate_left
      · intro w'
        go_simp
        with_reducible rfl
      rotate_left
      · simp only [Act.put, List.setIfInBounds_toArray, List.set_cons_zero, List.set_cons_succ, i64_w, i32_w]
        rfl
      refine pure_ (i := 7) (N := some 18) (v := ?_) (a' := ?_) #[true, true, true, true, true, false, true, true, false, false, false, false, false, false, false, false, false, false, false, false, false, false, false, false, false] rfl rfl (by kernel_rfl) (fun _ _ _ h => h) (Or.inl ⟨by rfl, ?_⟩) ?_ ?_
      rotate_left
      · intro w'
        go_simp
        with_reducible rfl
      rotate_left
      · simp only [Act.put, List.setIfInBounds_toArray, List.set_cons_zero, List.set_cons_succ, i64_w, i32_w]
        rfl
      refine pure_ (i := 8) (N := some 19) (v := ?_) (a' := ?_) #[true, true, true, true, true, false, true, true, true, false, false, false, false, false, false, false, false, false, false, false, false, false, false, false, false] rfl rfl (by kernel_rfl) (fun _ _ _ h => h) (Or.inl ⟨by rfl, ?_⟩) ?_ ?_
      rotate_left
      · intro w'
        go_simp
        with_reducible rfl
      rotate_left
      · simp only [Act.put, List.setIfInBounds_toArray, List.set_cons_zero, List.set_cons_succ, i64_w, i32_w]
        rfl
      refine pure_ (i := 9) (N := some 20) (v := ?_) (a' := ?_) #[true, true, true, true, true, false, true, true, true, true, false, false, false, false, false, false, false, false, false, false, false, false, false, false, false] rfl rfl (by kernel_rfl) (fun _ _ _ h => h) (Or.inl ⟨by rfl, ?_⟩) ?_ ?_
      rotate_left
      · intro w'
        go_simp
        with_reducible rfl
      rotate_left
      · simp only [Act.put, List.setIfInBounds_toArray, List.set_cons_zero, List.set_cons_succ, i64_w, i32_w]
        rfl
      refine pure_ (i := 11) (N := some 22) (v := ?_) (a' := ?_) #[true, true, true, true, true, false, true, true, true, true, false, true, false, false, false, false, false, false, false, false, false, false, false, false, false] rfl rfl (by kernel_rfl) (fun _ _ _ h => h) (Or.inl ⟨by rfl, ?_⟩) ?_ ?_
      rotate_left
      · intro w'
        go_simp
        with_reducible rfl
      rotate_left
      · simp only [Act.put, List.setIfInBounds_toArray, List.set_cons_zero, List.set_cons_succ, i64_w, i32_w]
        rfl
      refine pure_ (i := 12) (N := some 23) (v := ?_) (a' := ?_) #[true, true, true, true, true, false, true, true, true, true, false, true, true, false, false, false, false, false, false, false, false, false, false, false, false] rfl rfl (by kernel_rfl) (fun _ _ _ h => h) (Or.inl ⟨by rfl, ?_⟩) ?_ ?_
      rotate_left
      · intro w'
        go_simp
        with_reducible rfl
      rotate_left
      · simp only [Act.put, List.setIfInBounds_toArray, List.set_cons_zero, List.set_cons_succ, i64_w, i32_w]
        rfl
      refine pure_ (i := 13) (N := some 24) (v := ?_) (a' := ?_) #[true, true, true, true, true, false, true, true, true, true, false, true, true, true, false, false, false, false, false, false, false, false, false, false, false] rfl rfl (by kernel_rfl) (fun _ _ _ h => h) (Or.inl ⟨by rfl, ?_⟩) ?_ ?_
      rotate_left
      · intro w'
        go_simp
        with_reducible rfl
      rotate_left
      · simp only [Act.put, List.setIfInBounds_toArray, List.set_cons_zero, List.set_cons_succ, i64_w, i32_w]
        rfl
      refine pure_ (i := 14) (N := some 25) (v := ?_) (a' := ?_) #[true, true, true, true, true, false, true, true, true, true, false, true, true, true, true, false, false, false, false, false, false, false, false, false, false] rfl rfl (by kernel_rfl) (fun _ _ _ h => h) (Or.inl ⟨by rfl, ?_⟩) ?_ ?_
      rotate_left
      · intro w'
        go_simp
        with_reducible rfl
      rotate_left
      · simp only [Act.put, List.setIfInBounds_toArray, List.set_cons_zero, List.set_cons_succ, i64_w, i32_w]
        rfl
      refine pure_ (i := 16) (N := some 27) (v := ?_) (a' := ?_) #[true, true, true, true, true, false, true, true, true, true, false, true, true, true, true, false, true, false, false, false, false, false, false, false, false] rfl rfl (by kernel_rfl) (fun _ _ _ h => h) (Or.inl ⟨by rfl, ?_⟩) ?_ ?_
      rotate_left
      · intro w'
        go_simp
        with_reducible rfl
      rotate_left
      · simp only [Act.put, List.setIfInBounds_toArray, List.set_cons_zero, List.set_cons_succ, i64_w, i32_w]
        rfl
      refine pure_ (i := 17) (N := some 28) (v := ?_) (a' := ?_) #[true, true, true, true, true, false, true, true, true, true, false, true, true, true, true, false, true, true, false, false, false, false, false, false, false] rfl rfl (by kernel_rfl) (fun _ _ _ h => h) (Or.inl ⟨by rfl, ?_⟩) ?_ ?_
      rotate_left
      · intro w'
        go_simp
        with_reducible rfl
      rotate_left
      · simp only [Act.put, List.setIfInBounds_toArray, List.set_cons_zero, List.set_cons_succ, i64_w, i32_w]
        rfl
      refine pure_ (i := 18) (N := some 29) (v := ?_) (a' := ?_) #[true, true, true, true, true, false, true, true, true, true, false, true, true, true, true, false, true, true, true, false, false, false, false, false, false] rfl rfl (by kernel_rfl) (fun _ _ _ h => h) (Or.inl ⟨by rfl, ?_⟩) ?_ ?_
      rotate_left
      · intro w'
        go_simp
        with_reducible rfl
      rotate_left
      · simp only [Act.put, List.setIfInBounds_toArray, List.set_cons_zero, List.set_cons_succ, i64_w, i32_w]
        rfl
      refine pure_ (i := 19) (N := some 30) (v := ?_) (a' := ?_) #[true, true, true, true, true, false, true, true, true, true, false, true, true, true, true, false, true, true, true, true, false, false, false, false, false] rfl rfl (by kernel_rfl) (fun _ _ _ h => h) (Or.inl ⟨by rfl, ?_⟩) ?_ ?_
      rotate_left
      · intro w'
        go_simp
        with_reducible rfl
      rotate_left
      · simp only [Act.put, List.setIfInBounds_toArray, List.set_cons_zero, List.set_cons_succ, i64_w, i32_w]
        rfl
      refine take_ (i := 5) (N := some 16) (v := ?_) (a' := ?_) #[true, true, true, true, true, true, true, true, true, true, false, true, true, true, true, false, true, true, true, true, false, false, false, false, false] rfl rfl (by kernel_rfl) (fun _ _ _ h => h) (Or.inl ⟨by rfl, ?_⟩) hHeld ?_ ?_
      rotate_left
      · rintro w' ⟨s0, s1, s2, s3⟩
        go_simp
        with_reducible rfl
      rotate_left
      · simp only [Act.put, List.setIfInBounds_toArray, List.set_cons_zero, List.set_cons_succ, i64_w, i32_w]
        rfl
      refine take_ (i := 10) (N := some 21) (v := ?_) (a' := ?_) #[true, true, true, true, true, true, true, true, true, true, true, true, true, true, true, false, true, true, true, true, false, false, false, false, false] rfl rfl (by kernel_rfl) (fun _ _ _ h => h) (Or.inl ⟨by rfl, ?_⟩) hHeld ?_ ?_
      rotate_left
      · rintro w' ⟨s0, s1, s2, s3⟩
        go_simp
        with_reducible rfl
      rotate_left
      · simp only [Act.put, List.setIfInBounds_toArray, List.set_cons_zero, List.set_cons_succ, i64_w, i32_w]
        rfl
      refine take_ (i := 15) (N := some 26) (v := ?_) (a' := ?_) #[true, true, true, true, true, true, true, true, true, true, true, true, true, true, true, true, true, true, true, true, false, false, false, false, false] rfl rfl (by kernel_rfl) (fun _ _ _ h => h) (Or.inl ⟨by rfl, ?_⟩) hHeld ?_ ?_
      rotate_left
      · rintro w' ⟨s0, s1, s2, s3⟩
        go_simp
        with_reducible rfl
      rotate_left
      · simp only [Act.put, List.setIfInBounds_toArray, List.set_cons_zero, List.set_cons_succ, i64_w, i32_w]
        rfl
      refine take_ (i := 20) (N := some 31) (v := ?_) (a' := ?_) #[true, true, true, true, true, true, true, true, true, true, true, true, true, true, true, true, true, true, true, true, true, false, false, false, false] rfl rfl (by kernel_rfl) (fun _ _ _ h => h) (Or.inl ⟨by rfl, ?_⟩) hHeld ?_ ?_
      rotate_left
      · rintro w' ⟨s0, s1, s2, s3⟩
        go_simp
        with_reducible rfl
      rotate_left
      · simp only [Act.put, List.setIfInBounds_toArray, List.set_cons_zero, List.set_cons_succ, i64_w, i32_w]
        rfl
      refine pure_ (i := 21) (N := some 32) (v := ?_) (a' := ?_) #[true, true, true, true, true, true, true, true, true, true, true, true, true, true, true, true, true, true, true, true, true, true, false, false, false] rfl rfl (by kernel_rfl) (fun _ _ _ h => h) (Or.inl ⟨by rfl, ?_⟩) ?_ ?_
      rotate_left
      · intro w'
        go_simp
        with_reducible rfl
      rotate_left
      · simp only [Act.put, List.setIfInBounds_toArray, List.set_cons_zero, List.set_cons_succ, i64_w, i32_w]
        rfl
      refine one_ (i := 22) (N := some 33) #[true, true, true, true, true, true, true, true, true, true, true, true, true, true, true, true, true, true, true, true, true, true, true, false, false] rfl rfl (by kernel_rfl) (by decide) (fun K hK => ?_)
      refine value_ (w1 := ?_) (v := ?_) (by rfl) rfl ?_ ?_
      rotate_left 2
      · go_simp
        constructor
        · rfl
        · rfl
      refine hK.out _ _ ⟨pw_cell_below (below_alloc (below_drew HB.out) _) HX0.out, pw_cell_below (below_alloc (below_drew HB.out) _) HX1.out, pw_cell_below (below_alloc (below_drew HB.out) _) HX2.out, pw_cell_below (below_alloc (below_drew HB.out) _) HX3.out⟩ (fun hHeld => ?_)
      clear hK K
      refine norm_ (a' := ?_) ?_ ?_
      rotate_left
      · show Act.put _ (some 33) _ = _
        simp only [Act.put, List.setIfInBounds_toArray, List.set_cons_zero, List.set_cons_succ, i64_w, i32_w]
        rfl
      refine one_ (i := 23) (N := some 34) #[true, true, true, true, true, true, true, true, true, true, true, true, true, true, true, true, true, true, true, true, true, true, true, true, false] rfl rfl (by kernel_rfl) (by decide) (fun K hK => ?_)
      refine Kd.N_append_step k90 (W := wr.drew) (w0 := w) w.heap.size (by rfl) (.tmp 11) (.tmp 33) 34 90 (.agg #[.int .i64 0, .int .i64 0, .slice none 0 0, .slice none 0 0]) 64 rfl Try.underlying34 info90 rfl (by decide) (by omega) u3 ((cs.take i).map to90) (⟨cc.f0, cc.f1, cc.f2, cc.f3⟩ : S90) [.int .i64 cc.f0, .int .i64 cc.f1, .slice Ag cc.f2.length dg, .slice Ak cc.f3.length dk] (fun _ => True) (fun k => some k ≠ u3.ownBlock) rfl rfl HEL.out (fun _ hk => ⟨trivial, hk⟩) (fun _ _ => trivial) (Kd.N_drew HN.out) (below_drew HB.out) (below_drew HB.out).size (by omega) ?_
      intro v5 w9 ho hb9 hg hat
      have HN9 := Lib.hid ho
      have HB9 := Lib.hid hb9
      refine hK.out _ _ ⟨pw_cell_below hb9 HX0.out, pw_cell_below hb9 HX1.out, pw_cell_below hb9 HX2.out, pw_cell_below hb9 HX3.out⟩ (fun hHeld => ?_)
      clear hK K
      refine norm_ (a' := ?_) ?_ ?_
      rotate_left
      · show Act.put _ (some 34) _ = _
        simp only [Act.put, List.setIfInBounds_toArray, List.set_cons_zero, List.set_cons_succ, i64_w, i32_w]
        rfl
      refine pure_ (i := 24) (N := some 3) (v := ?_) (a' := ?_) #[true, true, true, true, true, true, true, true, true, true, true, true, true, true, true, true, true, true, true, true, true, true, true, true, true] rfl rfl (by kernel_rfl) (fun _ _ _ h => h) (Or.inl ⟨by rfl, ?_⟩) ?_ ?_
      rotate_left
      · intro w'
        go_simp
        with_reducible rfl
      rotate_left
      · simp only [Act.put, List.setIfInBounds_toArray, List.set_cons_zero, List.set_cons_succ, i64_w, i32_w]
        rfl
      refine done_ (by kernel_rfl) ?_
      clear ho hb9 hg hat HN HB HEL hHeld
      go_wp2_with fail
      go_roundw
      case rel => exact ⟨i + 1, by go_num, by omega, by rw [HTS.out]; exact HN9, HB9⟩
      case measure => first | (simp [intOf]; omega) | (simp [intOf]; done)
    · obtain rfl : i = cs.length := by omega
      rw [List.take_length] at HN
      clear hlt hi
      obtain ⟨A, c, rfl, hc, hCm⟩ := Kd.N_reads HN.out
      rw [List.length_map] at hc hCm ⊢
      have HCM := Lib.hid hCm
      clear hCm
      go_wp2_with fail
      go_ret
      exact ⟨A, c, rfl, hc, HCM.out, HB.out⟩
end Go.Proofs.Ythgnbeeobhfeaaa.T
end

section
/- Plain laws: what holds, over and over, till nothing changes. -/
namespace Go.Proofs.Ythgnbeeobhfeaaa.T

/-- What is known between two blocks: o is what blocks leave, a what stands ahead of them. -/
structure FQ (bs : List Bk) (cs : List Ch) (N : Nat) (start : List Bool) (e : Bool) (o a : Nat → List Bool) : Prop where
  phi : FPhi bs cs N start e (reachI bs) o
  alen : ∀ i, (a i).length = N
  agrow : ∀ i j, j < N → (a i)[j]? ≠ some e → (intoL bs N (firstL N start) e o i)[j]? ≠ some e
section
variable {bs : List Bk} {N : Nat} {start : List Bool} {cs : List Ch} {e : Bool} {o a : Nat → List Bool}
theorem FPhi.weaken {l l' : List Int} (h : FPhi bs cs N start e l o) (hs : ∀ x ∈ l, x ∈ l') (hr : ∀ x ∈ l', ∃ n : Nat, x = n ∧ Rch bs n) : FPhi bs cs N start e l' o :=
  ⟨hr, h.len, h.snd, h.grow, fun i hi hn => h.work i hi (fun hm => hn (hs _ hm))⟩
theorem reachI_rng : ∀ x ∈ reachI bs, ∃ n : Nat, x = n ∧ Rch bs n := fun _ hx => mem_reachI.1 hx
theorem FQ.begin : FQ bs cs N start e (fun _ => List.replicate N e) (fun _ => List.replicate N e) :=
  ⟨.begin reachI_rng (fun i hi => mem_reachI.2 ⟨i, rfl, hi⟩), fun _ => by simp, fun i j hj hn => absurd (replicate_at hj) hn⟩
theorem into_mono {o' : Nat → List Bool} (ho : ∀ i, (o i).length = N) (ho' : ∀ i, (o' i).length = N) (h : ∀ i j, j < N → (o i)[j]? ≠ some e → (o' i)[j]? ≠ some e) (n : Nat) {j : Nat} (hj : j < N) (hl : (intoL bs N (firstL N start) e o n)[j]? ≠ some e) : (intoL bs N (firstL N start) e o' n)[j]? ≠ some e := by
  rw [into_ne ho n hj] at hl
  rw [into_ne ho' n hj]
  exact hl.imp id (fun ⟨p, h1, h2, h3⟩ => ⟨p, h1, h2, h p j hj h3⟩)
theorem upd_up (h : FPhi bs cs N start e (reachI bs) o) (n : Nat) : ∀ i j, j < N → (o i)[j]? ≠ some e → (upd o n (leaveL bs cs N start e o n) i)[j]? ≠ some e := fun i j hj hne => by
  unfold upd
  split
  · rename_i e1
    rw [← e1]
    exact h.grow i j hj hne
  · exact hne
theorem FQ.step (h : FQ bs cs N start e o a) {n : Nat} (hn : Rch bs n) : FQ bs cs N start e (upd o n (leaveL bs cs N start e o n)) (upd a n (intoL bs N (firstL N start) e o n)) := by
  have h1 : FPhi bs cs N start e ((n : Int) :: reachI bs) o := h.phi.weaken (fun x hx => List.mem_cons_of_mem _ hx) (fun x hx => by
    rcases List.mem_cons.1 hx with rfl | hx
    · exact ⟨n, rfl, hn⟩
    · exact reachI_rng x hx)
  have h2 := h1.change
  have h3 : FPhi bs cs N start e (reachI bs) (upd o n (leaveL bs cs N start e o n)) := h2.weaken (fun x hx => mem_reachI.2 (h2.rng x hx)) reachI_rng
  refine ⟨h3, fun i => ?_, fun i j hj hne => ?_⟩
  · unfold upd
    split
    · exact into_length h.phi.len n
    · exact h.alen i
  · refine into_mono h.phi.len h3.len (upd_up h.phi n) i hj ?_
    unfold upd at hne
    split at hne
    · rename_i e1
      rw [e1]
      exact hne
    · exact h.agrow i j hj hne
/-- How many flags have not moved, of both. -/
def potQ (m : Nat) (e : Bool) (o a : Nat → List Bool) : Nat := potL m e o + potL m e a
theorem pot_upd {m : Nat} {x : Nat → List Bool} {n : Nat} {y : List Bool} (hn : n < m) (hl : (x n).length = y.length) (hg : ∀ j, j < (x n).length → (x n)[j]? ≠ some e → y[j]? ≠ some e) :
    potL m e (upd x n y) ≤ potL m e x ∧ (y ≠ x n → potL m e (upd x n y) < potL m e x) := by
  have hc := count_less (e := e) hl hg
  have hs := sum_less (fun i => (x i).count e) (fun i => (upd x n y i).count e) (List.range m) (fun i _ => by
    simp only [upd]
    split
    · rename_i e1
      rw [e1]
      exact hc.1
    · exact Nat.le_refl _)
  refine ⟨hs.1, fun hne => hs.2 n (List.mem_range.2 hn) ?_⟩
  simp only [upd, if_true]
  exact hc.2 (fun q => hne q.symm)
theorem FQ.pot (h : FQ bs cs N start e o a) {n : Nat} (hn : n < bs.length) :
    potQ bs.length e (upd o n (leaveL bs cs N start e o n)) (upd a n (intoL bs N (firstL N start) e o n)) ≤ potQ bs.length e o a ∧
    (¬ (intoL bs N (firstL N start) e o n = a n ∧ leaveL bs cs N start e o n = o n) → potQ bs.length e (upd o n (leaveL bs cs N start e o n)) (upd a n (intoL bs N (firstL N start) e o n)) < potQ bs.length e o a) := by
  have h1 := pot_upd (m := bs.length) (e := e) (x := o) (n := n) (y := leaveL bs cs N start e o n) hn (by rw [h.phi.len, leave_length h.phi.len]) (fun j hj => h.phi.grow n j (by rw [← h.phi.len n]; exact hj))
  have h2 := pot_upd (m := bs.length) (e := e) (x := a) (n := n) (y := intoL bs N (firstL N start) e o n) hn (by rw [h.alen, into_length h.phi.len]) (fun j hj => h.agrow n j (by rw [← h.alen n]; exact hj))
  unfold potQ
  refine ⟨Nat.add_le_add h1.1 h2.1, fun hne => ?_⟩
  by_cases e1 : leaveL bs cs N start e o n = o n
  · have := h2.2 (fun q => hne ⟨q, e1⟩)
    have := h1.1
    omega
  · have := h1.2 e1
    have := h2.1
    omega
theorem FQ.done (h : FQ bs cs N start e o a) (hs : ∀ i, Rch bs i → intoL bs N (firstL N start) e o i = a i ∧ leaveL bs cs N start e o i = o i) {n : Nat} (hn : Rch bs n) : a n = inL bs N start cs e n := by
  have h1 : FPhi bs cs N start e [] o := ⟨(fun x hx => by cases hx), h.phi.len, h.phi.snd, h.phi.grow, fun i hi _ => (hs i hi).2⟩
  rw [← (hs n hn).1]
  exact h1.done hn
end
/-- Behind i blocks of a round: nothing has changed, and i blocks would not; or less is left to move. -/
structure FR (bs : List Bk) (cs : List Ch) (N : Nat) (start : List Bool) (e : Bool) (P i : Nat) (ch : Bool) (o a : Nat → List Bool) : Prop where
  q : FQ bs cs N start e o a
  pot : potQ bs.length e o a ≤ P
  less : ch = true → potQ bs.length e o a < P
  stay : ch = false → ∀ i', i' < i → Rch bs i' → intoL bs N (firstL N start) e o i' = a i' ∧ leaveL bs cs N start e o i' = o i'
section
variable {bs : List Bk} {N : Nat} {start : List Bool} {cs : List Ch} {e : Bool} {o a : Nat → List Bool} {P i : Nat} {ch : Bool}
theorem FR.begin (h : FQ bs cs N start e o a) : FR bs cs N start e (potQ bs.length e o a) 0 false o a := ⟨h, Nat.le_refl _, (fun h => by cases h), fun _ i' h => by omega⟩
theorem FR.skip (h : FR bs cs N start e P i ch o a) (hi : ¬ Rch bs i) : FR bs cs N start e P (i + 1) ch o a :=
  ⟨h.q, h.pot, h.less, fun hc i' h1 h2 => h.stay hc i' (by
    by_cases e1 : i' = i
    · subst e1; exact absurd h2 hi
    · omega) h2⟩
theorem FR.same (h : FR bs cs N start e P i ch o a) (h1 : intoL bs N (firstL N start) e o i = a i) (h2 : leaveL bs cs N start e o i = o i) : FR bs cs N start e P (i + 1) ch o a :=
  ⟨h.q, h.pot, h.less, fun hc i' h3 h4 => by
    by_cases e1 : i' = i
    · subst e1; exact ⟨h1, h2⟩
    · exact h.stay hc i' (by omega) h4⟩
theorem FR.other (h : FR bs cs N start e P i ch o a) (hr : Rch bs i) (hne : ¬ (intoL bs N (firstL N start) e o i = a i ∧ leaveL bs cs N start e o i = o i)) :
    FR bs cs N start e P (i + 1) true (upd o i (leaveL bs cs N start e o i)) (upd a i (intoL bs N (firstL N start) e o i)) := by
  have hp := (h.q.pot hr.lt).2 hne
  have := h.pot
  exact ⟨h.q.step hr, by omega, (fun _ => by omega), (fun hc => by cases hc)⟩
theorem FR.done (h : FR bs cs N start e P bs.length false o a) {n : Nat} (hn : Rch bs n) : a n = inL bs N start cs e n := h.q.done (fun i hi => h.stay rfl i hi.lt hi) hn
end
end Go.Proofs.Ythgnbeeobhfeaaa.T
end
