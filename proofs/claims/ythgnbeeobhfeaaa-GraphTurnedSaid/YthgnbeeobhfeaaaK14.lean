/- Texts of this claim in one file: H31, H33b, H36. -/
import Derived.Test.YthgnbeeobhfeaaaK10
import Derived.Test.YthgnbeeobhfeaaaT47
import Derived.Test.YthgnbeeobhfeaaaK11
set_option linter.all false
section
/- Plain laws: turned round, the two answers are one. -/
namespace Go.Proofs.Ythgnbeeobhfeaaa.T

theorem Mv_turn {S S' : Nat → Prop} {T T' : Nat → Bool → Bool} {E : Nat → Nat → Prop} {e : Bool} (hS : ∀ n, S n → S' n) (hT : ∀ p x, T' p x = !T p (!x)) {n : Nat} (h : Mv e S T E n) : Mv (!e) S' T' E n := by
  induction h with
  | start h => exact .start (hS _ h)
  | @gen p n hE h => exact .gen hE (by rw [hT, Bool.not_not]; cases e <;> cases hq : T p false <;> cases hr : T p true <;> simp_all)
  | @pass p n hE _ h ih => exact .pass hE ih (by rw [hT, Bool.not_not]; cases e <;> cases hq : T p false <;> cases hr : T p true <;> simp_all)
theorem mvV_turn {S S' : Nat → Prop} {T T' : Nat → Bool → Bool} {E : Nat → Nat → Prop} {e : Bool} (hS : ∀ n, S n ↔ S' n) (hT : ∀ p x, T' p x = !T p (!x)) (n : Nat) : mvV (!e) S' T' E n = !mvV e S T E n := by
  have h1 : Mv e S T E n ↔ Mv (!e) S' T' E n := by
    constructor
    · exact Mv_turn (fun m => (hS m).1) hT
    · intro h
      have := Mv_turn (S' := S) (T' := T) (fun m => (hS m).2) (fun p x => by rw [hT, Bool.not_not, Bool.not_not]) h
      rwa [Bool.not_not] at this
  unfold mvV
  by_cases h : Mv e S T E n
  · rw [if_pos h, if_pos (h1.1 h)]
  · rw [if_neg h, if_neg (fun q => h (h1.2 q))]

/-- A change turned round. -/
def turnC (c : Ch) : Ch := ⟨c.blk, c.stp, c.kil.filter (fun x => !c.gen.contains x), c.gen⟩
/-- No two changes of one place. -/
def Alone (cs : List Ch) : Prop := cs.Pairwise (fun a b => ¬ (a.blk = b.blk ∧ a.stp = b.stp))
theorem hits_turn (cs : List Ch) (b k : Int) : hits (cs.map turnC) b k = (hits cs b k).map turnC := by
  unfold hits
  rw [List.filter_map]
  rfl
theorem hits_alone {cs : List Ch} (h : Alone cs) (b k : Int) : hits cs b k = [] ∨ ∃ c, hits cs b k = [c] := by
  have h1 : (hits cs b k).Pairwise (fun a b => ¬ (a.blk = b.blk ∧ a.stp = b.stp)) := List.Pairwise.filter _ h
  have h2 : ∀ c ∈ hits cs b k, c.blk = b ∧ c.stp = k := fun c hc => by
    simpa [hits] using (List.mem_filter.1 hc).2
  match hq : hits cs b k, h1, h2 with
  | [], _, _ => exact .inl rfl
  | [c], _, _ => exact .inr ⟨c, rfl⟩
  | a :: c :: r, h1, h2 =>
    exfalso
    have := (List.pairwise_cons.1 h1).1 c (by simp)
    have ha := h2 a (by simp)
    have hc := h2 c (by simp)
    exact this ⟨ha.1.trans hc.1.symm, ha.2.trans hc.2.symm⟩
theorem stepB_turn {cs : List Ch} (h : Alone cs) (b k : Int) (j : Nat) (x : Bool) : stepB (cs.map turnC) b k j (!x) = !stepB cs b k j x := by
  unfold stepB genB kilB
  rw [hits_turn]
  rcases hits_alone h b k with h1 | ⟨c, h1⟩
  · rw [h1]
    simp
  · rw [h1]
    simp only [List.map_cons, List.map_nil, List.any_cons, List.any_nil, Bool.or_false, turnC]
    have hf : (c.kil.filter (fun x => !c.gen.contains x)).contains (j : Int) = (c.kil.contains (j : Int) && !c.gen.contains (j : Int)) := by
      rw [Bool.eq_iff_iff]
      simp [List.mem_filter]
    rw [hf]
    cases c.gen.contains (j : Int) <;> cases c.kil.contains (j : Int) <;> cases x <;> rfl
theorem runB_turn {cs : List Ch} (h : Alone cs) (b : Int) (j : Nat) : ∀ (r k : Nat) (x : Bool), runB (cs.map turnC) b j k r (!x) = !runB cs b j k r x
  | 0, _, _ => rfl
  | r + 1, k, x => by rw [runB, stepB_turn h, runB_turn h b j r (k + 1), runB]
theorem inV_turn {bs : List Bk} {start first : List Bool} {cs : List Ch} (h : Alone cs) {j : Nat} (hf : first.getD j false = !start.getD j false) (e : Bool) (n : Nat) : inV bs first (cs.map turnC) (!e) j n = !inV bs start cs e j n := by
  unfold inV
  refine mvV_turn (fun m => ?_) (fun p x => ?_) n
  · rw [hf]
    cases e <;> cases start.getD j false <;> simp
  · have := runB_turn h (p : Int) j ((bs[p]?.map Bk.ins).getD 0 + 1) 0 (!x)
    rw [Bool.not_not] at this
    exact this
/-- Turned round: no flag is the same. -/
theorem flow_turn {bs : List Bk} {N : Nat} {start first : List Bool} {cs : List Ch} (h : Alone cs) (hf : ∀ j, j < N → first.getD j false = !start.getD j false) {i : Nat} {X Y : List (List Bool)} (hX : (flowL bs N start cs true)[i]? = some X) (hY : (flowL bs N first (cs.map turnC) false)[i]? = some Y) :
    X.length = Y.length ∧ ∀ (k : Nat) (x y : List Bool), X[k]? = some x → Y[k]? = some y → x.length = N ∧ y.length = N ∧ ∀ (j : Nat) (a b : Bool), x[j]? = some a → y[j]? = some b → b = !a := by
  refine ⟨?_, fun k x y hx hy => ?_⟩
  · obtain ⟨_, h1⟩ := flowL_get hX
    obtain ⟨_, h2⟩ := flowL_get hY
    rw [h1, h2]
    split
    · rw [statesL_length, statesL_length]
    · rfl
  · have h1 := flowL_flag hX hx
    have h2 := flowL_flag hY hy
    refine ⟨h1.1, h2.1, fun j a b ha hb => ?_⟩
    have hlt : j < N := by have := (List.getElem?_eq_some_iff.1 ha).1; rwa [h1.1] at this
    rw [h1.2 j hlt, Option.some.injEq] at ha
    rw [h2.2 j hlt, Option.some.injEq] at hb
    have := inV_turn (bs := bs) h (hf j hlt) true i
    rw [Bool.not_true] at this
    rw [← ha, ← hb, this, runB_turn h]
end Go.Proofs.Ythgnbeeobhfeaaa.T
end

section
/- The printed contract of has, in plain words. -/
namespace Go.Proofs.Ythgnbeeobhfeaaa.T
open Go.RowKit Go.Shelf Go.Proofs.YthgnbeeobhfeaaaW.PrintWords Go.Proofs.YthgnbeeobhfeaaaW.PrintLast

theorem wrap_nxt {k : Nat} (h : k ≤ 1000000) : wrap64 ((k : Int) + 1) = ((k + 1 : Nat) : Int) := by
  unfold wrap64
  omega
theorem has_run (l : List Int) (a : Int) (hl : l.length ≤ 1000000) : ∀ (d i : Nat), l.length - i = d → i ≤ l.length → ∃ k, cocoonlaw11_has.l0 k l a i = some ((l.drop i).contains a)
  | 0, i, h, hi => ⟨1, by
    rw [cocoonlaw11_has.l0, if_neg (by omega), List.drop_eq_nil_of_le (by omega)]
    rfl⟩
  | d + 1, i, h, hi => by
    have hlt : i < l.length := by omega
    obtain ⟨k, hk⟩ := has_run l a hl d (i + 1) (by omega) (by omega)
    refine ⟨k + 1, ?_⟩
    rw [cocoonlaw11_has.l0, if_pos (by omega), if_pos (by omega), List.drop_eq_getElem_cons hlt, List.contains_cons, rd_nat, show l.getD i 0 = l[i] by simp [List.getD_eq_getElem?_getD, List.getElem?_eq_getElem hlt], wrap_nxt (by omega), hk]
    by_cases e : l[i] = a
    · rw [if_pos e]
      simp [e]
    · rw [if_neg e]
      have : (a == l[i]) = false := by simpa using fun q => e q.symm
      rw [this, Bool.false_or]
theorem has_ok (l : List Int) (a : Int) (hl : l.length ≤ 1000000) : ∃ k, cocoonlaw11_has.f k l a = some (l.contains a) := by
  obtain ⟨k, hk⟩ := has_run l a hl _ 0 rfl (Nat.zero_le _)
  exact ⟨k, hk⟩

end Go.Proofs.Ythgnbeeobhfeaaa.T
end

section
/- Walks: what must be so on all ways, turned round. -/
namespace Go.Proofs.Ythgnbeeobhfeaaa.T
open Go.RowKit Go.Shelf Go.Proofs.YthgnbeeobhfeaaaW.PrintWords Go.Proofs.YthgnbeeobhfeaaaW.PrintLast

theorem drawn0_tr {a b c : World} (h : Drawn0 a b) (k : Drawn0 b c) : Drawn0 a c := by
  obtain ⟨n, rfl⟩ := h
  obtain ⟨m, rfl⟩ := k
  exact ⟨n + m, by first | rfl | (rw [World.drewN_drewN]) | simp [World.drewN]⟩
theorem drawn0_mk (a : World) (n : Nat) : Drawn0 a (a.drewN n) := ⟨n, rfl⟩
theorem drawn_ex {P : Program} {f : FuncId} {args : Array Value} {W : World} {v : Value} (h : Calls P f args W fun e w' => e = .returned v ∧ Drawn0 W w') : Calls P f args W fun e w' => e = .returned v ∧ ∃ m, w' = W.drewN m :=
  h.mono fun _ _ ⟨he, hd⟩ => ⟨he, by obtain ⟨n, rfl⟩ := hd; exact ⟨n, rfl⟩⟩
/-- The first i flags told by f, the others false. -/
def gL (f : Nat → Bool) (N i : Nat) : List Bool := (List.range N).map fun t => if t < i then f t else false
theorem gL_length (f : Nat → Bool) (N i : Nat) : (gL f N i).length = N := by simp [gL]
theorem gL_zero (f : Nat → Bool) (N : Nat) : gL f N 0 = List.replicate N false := by
  apply List.ext_getElem?
  intro j
  by_cases hj : j < N
  · simp [gL, hj]
  · simp [gL, hj]
theorem gL_set {f : Nat → Bool} {N i : Nat} (hi : i < N) : (gL f N i).set i (f i) = gL f N (i + 1) := by
  apply List.ext_getElem?
  intro j
  by_cases hj : j < N
  · by_cases e : i = j
    · subst e
      rw [List.getElem?_set_self (by rw [gL_length]; exact hi)]
      simp [gL, hj]
    · rw [List.getElem?_set_ne e]
      simp only [gL, List.getElem?_map, List.getElem?_range hj, Option.map_some]
      by_cases h : j < i
      · rw [if_pos h, if_pos (by omega)]
      · rw [if_neg h, if_neg (by omega)]
  · rw [List.getElem?_eq_none (by simp [gL_length]; omega), List.getElem?_eq_none (by rw [gL_length]; omega)]
theorem gL_get {f : Nat → Bool} {N j : Nat} (hj : j < N) : (gL f N N).getD j false = f j := by
  rw [List.getD_eq_getElem?_getD]
  simp [gL, hj]
/-- A change turned round. -/
def turnS (c : S66) : S66 := ⟨c.f0, c.f1, c.f3.filter (fun x => !c.f2.contains x), c.f2⟩
theorem chsOf_turn (cs : List S66) : chsOf (cs.map turnS) = (chsOf cs).map turnC := by
  unfold chsOf
  rw [List.map_map, List.map_map]
  rfl
def apartB (cs : List S66) (a b : Nat) : Prop := ¬ ((rd_T66 cs a).f0 = (rd_T66 cs b).f0 ∧ (rd_T66 cs a).f1 = (rd_T66 cs b).f1)
theorem alone_of {cs : List S66} (h : ∀ a b, a < b → b < cs.length → apartB cs a b) : Alone (chsOf cs) := by
  unfold Alone chsOf
  rw [List.pairwise_map]
  rw [List.pairwise_iff_getElem]
  intro i j hi hj hij
  have := h i j hij hj
  unfold apartB at this
  simpa [rd_T66, List.getD_eq_getElem?_getD, List.getElem?_eq_getElem hi, List.getElem?_eq_getElem hj] using this
theorem own_len2 {W : World} {B : Nat} {e : TypeId} {z : Nat} {v : Value} {n : Nat} {xs : List Value} (h : W.ownsRow B e z v n xs) : n ≤ 9223372036854775807 := by
  obtain ⟨_, ⟨_, rfl⟩ | ⟨g, cap, cur, _, _, _, h1, h2, _⟩⟩ := h
  · omega
  · have : maxLen = 9223372036854775807 := rfl
    omega
theorem OB.over {W w1 : World} {B : Nat} {v u : Value} {xs : List Bool} {e' : Nat} (h : OB W B v xs) (hty : ∀ k, u.ownBlock = some k → ∃ cells, W.heap[k]? = some (.cells cells e' (0, 0))) (ne : 4 ≠ e') (hg : W.grownBy w1 u.ownBlock) : OB w1 B v xs := by
  refine own_other h hg ?_
  cases hv : v.ownBlock with
  | none => exact .inl rfl
  | some k =>
    refine .inr (fun he => ?_)
    obtain ⟨c1, h1⟩ := own_typed h k hv
    obtain ⟨c2, h2⟩ := hty k he.symm
    rw [h1] at h2
    injection h2 with h2
    injection h2 with _ h2
    exact ne h2
/-- What is appended: one row of the call's own, one that is read. -/
theorem turn_elem {w W : World} {B : Nat} {u : Value} {ms : List S66} {Ak Ag : Option Addr} {ck cg : Nat} {ks gs : List Int} {b s : Int} (hN : Kd.N k66 66 W B (fun _ => True) u ms) (hB : w.heap.size ≤ B) (hb : Below w.heap.size w W)
    (hR : Kd.R (Kd.int .i64) 3 W B (fun _ => True) (.slice Ak ks.length ck) ks) (hG : (Kd.int .i64).C w Ag gs.length gs) (hg : gs.length ≤ cg) :
    Kd.FK k66 W (fun k => some k ≠ u.ownBlock) ⟨b, s, ks, gs⟩ [.int .i64 b, .int .i64 s, .slice Ak ks.length ck, .slice Ag gs.length cg] := by
  refine k66_mkF W _ ⟨b, s, ks, gs⟩ (Kd.R_reads' hR).2.1 ?_ hg ?_
  · exact Kd.R_F (Kd.R_mono (Kd.R_apart' hR (Kd.N_typed hN) (by decide)) (fun k hk => hk.2))
  · refine Kd.F_mono (Kd.F_below (Kd.C_F (Kd.heap_int .i64) hG) hb) (fun k hk he => ?_)
    have := Kd.N_base hN k he.symm
    omega

set_option maxRecDepth 100000 in
set_option maxHeartbeats 16000000 in
theorem turned_any (s : ByteArray) (p : Int) (A2 : Option Addr) (n2 c2 : Nat) (A3 : Option Addr) (c3 : Nat) (l03 : List S58) (n : Int) (As : Option Addr) (cst : Nat) (start : List Bool) (Al : Option Addr) (cl : Nat) (cs : List S66) (w : World)
    (hC : Kd.C k58 w A3 l03.length l03) (hS : Kd.bool.C w As start.length start) (hs : start.length ≤ cst) (hCs : Kd.C k66 w Al cs.length cs) (hcl : cs.length ≤ cl) (hWs : ∀ c ∈ cs, inW c.f0 = true ∧ inW c.f1 = true) :
    Calls Try.prog 9 #[bodyV s p A2 n2 c2 A3 l03.length c3, .int .i64 n, .slice As start.length cst, .slice Al cs.length cl] w fun e w' => e = .returned (.bool true) ∧ Below w.heap.size w w' := by
  have HC := Lib.hid hC
  have HS := Lib.hid hS
  have HCs := Lib.hid hCs
  have HWs := Lib.hid hWs
  have hls : start.length ≤ 9223372036854775807 := hS.2.1
  have hl3 : l03.length ≤ 9223372036854775807 := hC.2.1
  have hlc : cs.length ≤ 9223372036854775807 := hCs.2.1
  clear hC hS hCs hWs
  go_enter Try.func9, Try.ntmps9
  go_wp2_with fail
  have hbx : BoxIs (w.alloc (.cells (bodyC s p A2 n2 c2 A3 l03.length c3) 25)) w.heap.size (bodyC s p A2 n2 c2 A3 l03.length c3) 25 := heap_alloc_new w _
  have hlow := below_alloc (Below.refl w.heap.size w) (.cells (bodyC s p A2 n2 c2 A3 l03.length c3) 25)
  generalize w.alloc (.cells (bodyC s p A2 n2 c2 A3 l03.length c3) 25) = w1 at *
  refine (works_any w1).mono ?_
  rintro e w2 ⟨rfl, hb⟩
  replace hbx := hbx.below hb hbx.lt
  replace hlow := below_then hlow hlow.size hb
  clear hb
  have e0 := hbx.cell 0 _ rfl
  have e1 := hbx.cell 1 _ rfl
  have e2 := hbx.cell 2 _ rfl
  have e3 := hbx.cell 3 _ rfl
  have HBX := Lib.hid hbx
  have HLO := Lib.hid hlow
  clear hbx hlow
  go_wp2_with fail
  refine (over_any s p A2 n2 c2 A3 c3 l03 n Al cl cs w2 (Kd.C_below HC.out HLO.out) (Kd.C_below HCs.out HLO.out)).mono ?_
  rintro e w3 ⟨_, rfl, ⟨o, rfl, ho⟩, hb⟩
  have HBX3 := Lib.hid (HBX.out.below hb HBX.out.lt)
  have HLO3 := Lib.hid (below_then HLO.out HLO.out.size hb)
  clear hb HBX HLO e0 e1 e2 e3
  cases o with
  | true =>
    clear ho
    go_wp2_with fail
    go_ret
    exact ⟨rfl, HLO3.out⟩
  | false =>
    obtain ⟨hfew, hn30, hfc⟩ := ho rfl
    clear ho
    by_cases k0 : start.length > 30
    · have k0' : (start.length : Int) > 30 := by omega
      go_wp2_with fail
      go_ret
      exact ⟨rfl, HLO3.out⟩
    · have k0' : ¬ ((start.length : Int) > 30) := by omega
      by_cases k3 : n < 0
      · go_wp2_with fail
        go_ret
        exact ⟨rfl, HLO3.out⟩
      · obtain ⟨N, rfl⟩ := Int.eq_ofNat_of_zero_le (show 0 ≤ n by omega)
        have hcf : cs.length ≤ 1000 := by
          have h := hfc
          simp only [fewC, Bool.and_eq_true, decide_eq_true_eq] at h
          have := h.1
          simp only [chsOf, List.length_map] at this
          omega
        have hcs : ∀ c ∈ cs, c.f2.length ≤ 1000000 ∧ c.f3.length ≤ 1000000 := fun c hc => by
          have h := hfc
          simp only [fewC, Bool.and_eq_true, decide_eq_true_eq, List.all_eq_true] at h
          have := h.2 ⟨c.f0, c.f1, c.f2, c.f3⟩ (by unfold chsOf; exact List.mem_map.2 ⟨c, hc, rfl⟩)
          simp only at this
          omega
        have HCSL := Lib.hid hcs
        have HFEW := Lib.hid hfew
        have hmk : ∀ W : World, (Instr.makeSlice 26 (.int .i64 N) (.int .i64 N)).run Try.prog W = .ok (.slice (some ⟨W.heap.size, 0, none⟩) N N) (W.alloc (.cells (madeCells #[.bool false] N) 4)) := fun W => run_make_row' (P := Try.prog) 26 4 (.bool false) 1 Try.underlying26 info4 rfl .i64 .i64 N (by omega) (by omega) W
        have hown := own_made_of' (enc := Value.bool) (d := false) w3 w3.heap.size 4 N (Nat.le_refl _) (by omega)
        have HOW : Hid (OB (w3.alloc (.cells (madeCells #[.bool false] N) 4)) w3.heap.size (.slice (some ⟨w3.heap.size, 0, none⟩) N N) (gL (fun t => !start.getD t false) N 0)) := Lib.hid (by
          rw [gL_zero]
          unfold OB
          rw [List.length_replicate] at hown ⊢
          exact hown)
        have HBA : Hid (Below w3.heap.size w3 (w3.alloc (.cells (madeCells #[.bool false] N) 4))) := Lib.hid (below_alloc (Below.refl _ _) _)
        clear hown hfc hcs hfew
        go_wp2_with fail
        generalize w3.alloc (.cells (madeCells #[.bool false] N) 4) = w7 at *
        go_loopw [12] (fun u wr => ∃ i : Nat, u = .int .i64 i ∧ i ≤ N ∧ Hid (OB wr w3.heap.size (.slice (some ⟨w3.heap.size, 0, none⟩) N N) (gL (fun t => !start.getD t false) N i)) ∧ Hid (Below w3.heap.size w3 wr)) (fun u _ => N - (intOf u).toNat)
        case atStart => exact ⟨0, rfl, Nat.zero_le _, HOW, HBA⟩
        case round =>
          clear HOW HBA hmk
          obtain ⟨i, rfl, hi, HO, HB⟩ := hrel
          by_cases g1 : i < N
          · have hoe : wr.ownsRow w3.heap.size 4 1 (.slice (some ⟨w3.heap.size, 0, none⟩) N N) N (encs Value.bool (gL (fun t => !start.getD t false) N i)) := by
              have h := HO.out
              unfold OB at h
              rwa [gL_length] at h
            have hset := gL_set (f := fun t => !start.getD t false) g1
            obtain ⟨hst, hgr⟩ := own_store_of (enc := Value.bool) hoe (i : Int) (!start.getD i false)
            rw [Int.toNat_natCast, hset] at hst
            rw [Int.toNat_natCast] at hgr
            obtain ⟨hcl', hfz⟩ := own_at_of (enc := Value.bool) (d := false) hoe (i : Int) (by omega) (by omega)
            rw [Int.toNat_natCast] at hcl' hfz
            have HST : Hid (OB (wr.setCell ⟨w3.heap.size, i, none⟩ (.bool (!start.getD i false))) w3.heap.size (.slice (some ⟨w3.heap.size, 0, none⟩) N N) (gL (fun t => !start.getD t false) N (i + 1))) := Lib.hid (by
              unfold OB
              rw [gL_length]
              exact hst)
            have HB2 := Lib.hid (HB.out.grown hgr HB.out.size (fun k hk => by injection hk with hk; omega))
            clear hset hst hgr hoe HO
            by_cases g2 : i < start.length
            · obtain ⟨b, hb⟩ : ∃ b, start[i]? = some b := ⟨_, List.getElem?_eq_getElem g2⟩
              obtain ⟨as_, has, hsc⟩ := Kd.at_bool (Kd.C_below HS.out (below_then HLO3.out HLO3.out.size HB.out)) (i : Int) (by omega) (by omega)
              rw [show rdOf false start (i : Int) = b by simp [rdOf, List.getD_eq_getElem?_getD, hb], Int.toNat_natCast] at hsc
              subst has
              rw [show start.getD i false = b by rw [List.getD_eq_getElem?_getD, hb]; rfl] at HST HB2
              have g2' : (i : Int) < (start.length : Int) := by omega
              clear hb HB
              cases b <;>
              · go_wp2_with fail
                go_roundw
                case rel => exact ⟨i + 1, by go_num, by omega, HST, HB2⟩
                case measure => first | (simp [intOf]; omega) | (simp [intOf]; done)
            · rw [show start.getD i false = false by rw [List.getD_eq_getElem?_getD, List.getElem?_eq_none (by omega)]; rfl] at HST HB2
              have g2' : ¬ ((i : Int) < (start.length : Int)) := by omega
              clear HB
              go_wp2_with fail
              go_roundw
              case rel => exact ⟨i + 1, by go_num, by omega, HST, HB2⟩
              case measure => first | (simp [intOf]; omega) | (simp [intOf]; done)
          · obtain rfl : N = i := by omega
            have HFG : Hid (∀ j, j < N → (gL (fun t => !start.getD t false) N N).getD j false = !start.getD j false) := Lib.hid (fun j hj => gL_get hj)
            have HFL : Hid ((gL (fun t => !start.getD t false) N N).length = N) := Lib.hid (gL_length _ _ _)
            generalize gL (fun t => !start.getD t false) N N = first at *
            clear g1 hi
            go_wp2_with fail
            go_loopw [13, 14] (fun u13 u14 wr => ∃ i : Nat, u14 = .int .i64 i ∧ i ≤ cs.length ∧ Hid (Kd.N k66 66 wr w3.heap.size (fun _ => True) u13 ((cs.take i).map turnS)) ∧ Hid (OB wr w3.heap.size (.slice (some ⟨w3.heap.size, 0, none⟩) N N) first) ∧ Hid (Below w3.heap.size w3 wr) ∧ Hid (∀ a b, a < b → b < i → apartB cs a b)) (fun _ u _ => cs.length - (intOf u).toNat)
            case atStart => exact ⟨0, rfl, Nat.zero_le _, Lib.hid (Kd.N_nil _ _ _ _ _), HO, HB, Lib.hid (fun a b _ h => by omega)⟩
            case round =>
              clear HO HB
              obtain ⟨i, rfl, hi, HN, HO, HB, HAP⟩ := hrel
              by_cases hlt : i < cs.length
              · have hci : cs[i]? = some (rd_T66 cs i) := by simp [rd_T66, List.getElem?_eq_getElem hlt, List.getD_eq_getElem?_getD]
                obtain ⟨ad, Ag, dg, Ak, dk, rfl, hx0, hx1, hx2, hx3, hl2, hr2, hl3', hr3⟩ := at_T66 HCs.out (i : Int) (by omega) (by omega)
                rw [Int.toNat_natCast] at hx0 hx1 hx2 hx3
                have hcm := HCSL.out _ (List.mem_of_getElem? hci)
                have HTS : Hid ((cs.take (i + 1)).map turnS = (cs.take i).map turnS ++ [turnS (rd_T66 cs i)]) := Lib.hid (by rw [List.take_succ, hci]; simp)
                have HAP2 : Hid (∀ a b, a < b → b < i → apartB cs a b) := HAP
                obtain ⟨cc, hcc⟩ : ∃ cc, cc = rd_T66 cs i := ⟨_, rfl⟩
                rw [← hcc] at hx0 hx1 hx2 hx3 hl2 hr2 hl3' hr3 hcm HTS
                have HCC := Lib.hid hcc
                have HX0 := Lib.hid hx0
                have HX1 := Lib.hid hx1
                have HX2 := Lib.hid hx2
                have HX3 := Lib.hid hx3
                have HR2 := Lib.hid hr2
                have HR3 := Lib.hid hr3
                obtain ⟨hf2, hf3⟩ := hcm
                clear hci hcc hx0 hx1 hx2 hx3 hr2 hr3 HAP
                go_wp2_with fail
                go_loopw [15] (fun u wr2 => ∃ k : Nat, u = .int .i64 k ∧ k ≤ i ∧ Hid (∀ a, a < k → apartB cs a i) ∧ Hid (Drawn0 wr wr2)) (fun u _ => i - (intOf u).toNat)
                case atStart => exact ⟨0, rfl, Nat.zero_le _, Lib.hid (fun a h => by omega), Lib.hid ⟨0, rfl⟩⟩
                case round =>
                  obtain ⟨k, rfl, hk, HQ, HD⟩ := hrel
                  have HBr := Lib.hid (below_then HB.out HB.out.size HD.out.below)
                  have HLr := Lib.hid (below_then HLO3.out HLO3.out.size HBr.out)
                  by_cases hk1 : k < i
                  · have z0 := pw_cell_below HLr.out HX0.out
                    have z1 := pw_cell_below HLr.out HX1.out
                    obtain ⟨ad', _, _, _, _, ead, hy0, hy1, _, _, _, _, _, _⟩ := at_T66 HCs.out (k : Int) (by omega) (by omega)
                    injection ead with ead
                    subst ead
                    rw [Int.toNat_natCast] at hy0 hy1
                    have z2 := pw_cell_below HLr.out hy0
                    have z3 := pw_cell_below HLr.out hy1
                    have HQ2 : Hid (¬ ((rd_T66 cs k).f0 = cc.f0 ∧ (rd_T66 cs k).f1 = cc.f1) → ∀ a, a < k + 1 → apartB cs a i) := Lib.hid (fun hn a ha => by
                      by_cases e : a = k
                      · subst e
                        unfold apartB
                        rw [← HCC.out]
                        exact hn
                      · exact HQ.out a (by omega))
                    clear hy0 hy1 HQ
                    obtain ⟨q, hq⟩ : ∃ q, q = rd_T66 cs k := ⟨_, rfl⟩
                    rw [← hq] at z2 z3 HQ2
                    clear hq
                    by_cases e0 : q.f0 = cc.f0
                    · have d0 : (q.f0 == cc.f0) = true := by simpa using e0
                      by_cases e1 : q.f1 = cc.f1
                      · have d1 : (q.f1 == cc.f1) = true := by simpa using e1
                        go_wp2_with fail
                        go_quiet (fail)
                        go_wp2_with fail
                        go_ret
                        exact ⟨rfl, pw_below_drewN HLr.out _⟩
                      · have d1 : (q.f1 == cc.f1) = false := by simpa using e1
                        go_wp2_with fail
                        go_quiet (fail)
                        go_wp2_with fail
                        go_roundw
                        case rel => exact ⟨k + 1, by go_num, by omega, Lib.hid (HQ2.out (fun h => e1 h.2)), Lib.hid (drawn0_tr HD.out ⟨_, rfl⟩)⟩
                        case measure => first | (simp [intOf]; omega) | (simp [intOf]; done)
                    · have d0 : (q.f0 == cc.f0) = false := by simpa using e0
                      go_wp2_with fail
                      go_quiet (fail)
                      go_wp2_with fail
                      go_roundw
                      case rel => exact ⟨k + 1, by go_num, by omega, Lib.hid (HQ2.out (fun h => e0 h.1)), Lib.hid (drawn0_tr HD.out ⟨_, rfl⟩)⟩
                      case measure => first | (simp [intOf]; omega) | (simp [intOf]; done)
                  · obtain rfl : i = k := by omega
                    have HAP : Hid (∀ a b, a < b → b < i + 1 → apartB cs a b) := Lib.hid (fun a b h1 h2 => by
                      by_cases e : b = i
                      · subst e
                        exact HQ.out a h1
                      · exact HAP2.out a b h1 (by omega))
                    have HN2 : Hid (Kd.N k66 66 wr w3.heap.size (fun k => True ∧ some k ≠ (Value.slice none 0 0).ownBlock) u13 ((cs.take i).map turnS)) := Lib.hid (Kd.N_apart_nil (Kd.N_below HN.out HD.out.below))
                    have HO2 : Hid (OB wr w3.heap.size (.slice (some ⟨w3.heap.size, 0, none⟩) N N) first) := Lib.hid (pw_own_below HO.out HD.out.below)
                    have hml : ((cs.take i).map turnS).length ≤ 1000 := by
                      rw [List.length_map]
                      have := List.length_take_le i cs
                      omega
                    clear HQ HAP2 HN HO hk hk1 HLr HB HD
                    go_wp2_with fail
                    go_loopw [16, 17] (fun u16 u17 wr2 => ∃ (k : Nat) (ks : List Int), u17 = .int .i64 k ∧ k ≤ cc.f3.length ∧ Hid (ks = (cc.f3.take k).filter (fun x => !cc.f2.contains x)) ∧ Hid (Kd.R (Kd.int .i64) 3 wr2 w3.heap.size (fun _ => True) u16 ks) ∧ Hid (Kd.N k66 66 wr2 w3.heap.size (fun k => True ∧ some k ≠ u16.ownBlock) u13 ((cs.take i).map turnS)) ∧ Hid (OB wr2 w3.heap.size (.slice (some ⟨w3.heap.size, 0, none⟩) N N) first) ∧ Hid (Below w3.heap.size w3 wr2)) (fun _ u _ => cc.f3.length - (intOf u).toNat)
                    case atStart => exact ⟨0, [], rfl, Nat.zero_le _, Lib.hid rfl, Lib.hid (Kd.R_nil _ _ _ _ _), HN2, HO2, HBr⟩
                    case round =>
                      clear HN2 HO2 HBr
                      obtain ⟨k, ks, rfl, hk, HKS, HR, HN, HO, HB⟩ := hrel
                      have HLr := Lib.hid (below_then HLO3.out HLO3.out.size HB.out)
                      have y3 := pw_cell_below HLr.out HX3.out
                      have y2 := pw_cell_below HLr.out HX2.out
                      have hkl : ks.length ≤ 1000000 := by
                        rw [HKS.out]
                        have h1 := List.length_filter_le (fun x => !cc.f2.contains x) (cc.f3.take k)
                        have h2 := List.length_take_le k cc.f3
                        omega
                      by_cases hlt2 : k < cc.f3.length
                      · obtain ⟨z, hz⟩ : ∃ z, cc.f3[k]? = some z := ⟨_, List.getElem?_eq_getElem hlt2⟩
                        obtain ⟨az, haz, hzc⟩ := Kd.at_int (Kd.C_below HR3.out HLr.out) (k : Int) (by omega) (by omega)
                        rw [rd_nat, Int.toNat_natCast, show cc.f3.getD k 0 = z by rw [List.getD_eq_getElem?_getD, hz]; rfl] at hzc
                        subst haz
                        obtain ⟨K, hK⟩ := has_ok cc.f2 z hf2
                        have HHAS : Hid (∀ W : World, Below w.heap.size w W → Calls Try.prog 25 #[.slice Ag cc.f2.length dg, .int .i64 z] W fun e w' => e = .returned (.bool (cc.f2.contains z)) ∧ Drawn0 W w') := Lib.hid (fun W hW => cocoonlaw11_has.calls K Ag dg cc.f2 z _ W (Kd.C_below HR2.out hW) hl2 hK)
                        have HKN : Hid ((cc.f3.take (k + 1)).filter (fun x => !cc.f2.contains x) = ks ++ (if cc.f2.contains z then [] else [z])) := Lib.hid (by
                          rw [List.take_succ, hz, List.filter_append, ← HKS.out]
                          congr 1
                          show List.filter _ [z] = _
                          rw [List.filter_cons, List.filter_nil]
                          cases cc.f2.contains z <;> rfl)
                        clear hz hK
                        generalize cc.f2.contains z = hb at *
                        go_wp2_with fail
                        go_quiet ((go_at_call 25; exact Calls.quiet_of (drawn_ex (HHAS.out _ (pw_below_drewN HLr.out _)))))
                        have hd8 : Drawn0 wr (wr.drewN nq) := drawn0_mk _ _
                        generalize wr.drewN nq = w8 at *
                        have HB8 := Lib.hid (below_then HB.out HB.out.size hd8.below)
                        have HR8 := Lib.hid (Kd.R_below HR.out hd8.below)
                        have HN8 := Lib.hid (Kd.N_below HN.out hd8.below)
                        have HO8 := Lib.hid (pw_own_below HO.out hd8.below)
                        have HL8 := Lib.hid (below_then HLO3.out HLO3.out.size HB8.out)
                        have y3 := pw_cell_below HL8.out HX3.out
                        replace hzc := pw_cell_below hd8.below hzc
                        clear hd8 HR HN HO HB HLr y2 HHAS
                        cases hb with
                        | true =>
                          go_wp2_with fail
                          go_roundw
                          case rel => exact ⟨k + 1, ks, by go_num, by omega, Lib.hid (by rw [HKN.out]; simp), HR8, HN8, HO8, HB8⟩
                          case measure => first | (simp [intOf]; omega) | (simp [intOf]; done)
                        | false =>
                          go_wp2_with (first | (at_builtin; refine Kd.R_append (Kd.int .i64) (w0 := w3) w3.heap.size rfl (.tmp 123) (.tmp 132) 42 3 (.int .i64 0) 8 rfl Try.underlying42 info3 rfl (by decide) (by omega) u16 ks z [.int .i64 z] (fun _ => True) (fun _ => False) rfl rfl ?aP (fun _ hk => hk.elim) (fun _ _ => trivial) HR8.out HB8.out HB8.out.size ?aL ?_; (case aP => exact rfl); (case aL => omega); intro v5 w9 ho hb9 hg hat; have HR9 := Lib.hid ho; have HN9 := Lib.hid (Kd.N_afterv HN8.out hg hat); have HO9 := Lib.hid (OB.over HO8.out (Kd.R_typed HR8.out) (by decide) hg); have HB9 := Lib.hid hb9; clear ho hb9 hg hat HR8 HN8 HO8 HB8 HL8))
                          go_roundw
                          case rel => exact ⟨k + 1, ks ++ [z], by go_num, by omega, Lib.hid (by rw [HKN.out]; simp), HR9, HN9, HO9, HB9⟩
                          case measure => first | (simp [intOf]; omega) | (simp [intOf]; done)
                      · obtain rfl : k = cc.f3.length := by omega
                        rw [List.take_length] at HKS
                        have y0 := pw_cell_below HLr.out HX0.out
                        have y1 := pw_cell_below HLr.out HX1.out
                        obtain ⟨Aq, cq, rfl⟩ : ∃ A c, u16 = .slice A ks.length c := by
                          obtain ⟨inner, h⟩ := Kd.R_own HR.out
                          exact own_slice h
                        have HN1 : Hid (Kd.N k66 66 wr w3.heap.size (fun _ => True) u13 ((cs.take i).map turnS)) := Lib.hid (Kd.N_mono HN.out (fun _ _ => trivial))
                        have HEL := Lib.hid (turn_elem (b := cc.f0) (s := cc.f1) (Kd.N_drew HN1.out) HLO3.out.size (below_drew HLr.out) (Kd.R_drew HR.out) HR2.out hl2)
                        have HTE : Hid (turnS cc = ⟨cc.f0, cc.f1, ks, cc.f2⟩) := Lib.hid (by rw [HKS.out]; rfl)
                        clear HKS hlt2 hk HN
                        go_wp2_with fail
                        refine start_ (n := 21) (S := fun w' => w'.cell? (ad.add (i * 4)) = some (.int .i64 cc.f0) ∧ w'.cell? ⟨(ad.add (i * 4)).block, (ad.add (i * 4)).off + 1, none⟩ = some (.int .i64 cc.f1) ∧ w'.cell? ⟨(ad.add (i * 4)).block, (ad.add (i * 4)).off + 2, none⟩ = some (.slice Ag cc.f2.length dg)) (ds := []) #[false, false, false, false, false, false, false, false, false, false, false, false, false, false, false, false, false, false, false, false, false] (by kernel_rfl) rfl rfl ⟨pw_cell_below (below_drew HLr.out) HX0.out, pw_cell_below (below_drew HLr.out) HX1.out, pw_cell_below (below_drew HLr.out) HX2.out⟩ (fun hHeld => ?_)
                        refine pure_ (i := 0) (N := some 134) (v := ?_) (a' := ?_) #[true, false, false, false, false, false, false, false, false, false, false, false, false, false, false, false, false, false, false, false, false] rfl rfl (by kernel_rfl) (fun _ _ _ h => h) (Or.inl ⟨by rfl, ?_⟩) ?_ ?_
                        rotate_left
                        · intro w'
                          go_simp
                          with_reducible rfl
                        rotate_left
                        · simp only [Act.put, List.setIfInBounds_toArray, List.set_cons_zero, List.set_cons_succ, i64_w, i32_w]
                          rfl
                        refine pure_ (i := 1) (N := some 135) (v := ?_) (a' := ?_) #[true, true, false, false, false, false, false, false, false, false, false, false, false, false, false, false, false, false, false, false, false] rfl rfl (by kernel_rfl) (fun _ _ _ h => h) (Or.inl ⟨by rfl, ?_⟩) ?_ ?_
                        rotate_left
                        · intro w'
                          go_simp
                          with_reducible rfl
                        rotate_left
                        · simp only [Act.put, List.setIfInBounds_toArray, List.set_cons_zero, List.set_cons_succ, i64_w, i32_w]
                          rfl
                        refine pure_ (i := 2) (N := some 136) (v := ?_) (a' := ?_) #[true, true, true, false, false, false, false, false, false, false, false, false, false, false, false, false, false, false, false, false, false] rfl rfl (by kernel_rfl) (fun _ _ _ h => h) (Or.inl ⟨by rfl, ?_⟩) ?_ ?_
                        rotate_left
                        · intro w'
                          go_simp
                          with_reducible rfl
                        rotate_left
                        · simp only [Act.put, List.setIfInBounds_toArray, List.set_cons_zero, List.set_cons_succ, i64_w, i32_w]
                          rfl
                        refine pure_ (i := 3) (N := some 137) (v := ?_) (a' := ?_) #[true, true, true, true, false, false, false, false, false, false, false, false, false, false, false, false, false, false, false, false, false] rfl rfl (by kernel_rfl) (fun _ _ _ h => h) (Or.inl ⟨by rfl, ?_⟩) ?_ ?_
                        rotate_left
                        · intro w'
                          go_simp
                          with_reducible rfl
                        rotate_left
                        · simp only [Act.put, List.setIfInBounds_toArray, List.set_cons_zero, List.set_cons_succ, i64_w, i32_w]
                          rfl
                        refine pure_ (i := 4) (N := some 138) (v := ?_) (a' := ?_) #[true, true, true, true, true, false, false, false, false, false, false, false, false, false, false, false, false, false, false, false, false] rfl rfl (by kernel_rfl) (fun _ _ _ h => h) (Or.inl ⟨by rfl, ?_⟩) ?_ ?_
                        rotate_left
                        · intro w'
                          go_simp
                          with_reducible rfl
                        rotate_left
                        · simp only [Act.put, List.setIfInBounds_toArray, List.set_cons_zero, List.set_cons_succ, i64_w, i32_w]
                          rfl
                        refine pure_ (i := 6) (N := some 140) (v := ?_) (a' := ?_) #[true, true, true, true, true, false, true, false, false, false, false, false, false, false, false, false, false, false, false, false, false] rfl rfl (by kernel_rfl) (fun _ _ _ h => h) (Or.inl ⟨by rfl, ?_⟩) ?_ ?_
                        rotate_left
                        · intro w'
                          go_simp
                          with_reducible rfl
                        rotate_left
                        · simp only [Act.put, List.setIfInBounds_toArray, List.set_cons_zero, List.set_cons_succ, i64_w, i32_w]
                          rfl
                        refine pure_ (i := 7) (N := some 141) (v := ?_) (a' := ?_) #[true, true, true, true, true, false, true, true, false, false, false, false, false, false, false, false, false, false, false, false, false] rfl rfl (by kernel_rfl) (fun _ _ _ h => h) (Or.inl ⟨by rfl, ?_⟩) ?_ ?_
                        rotate_left
                        · intro w'
                          go_simp
                          with_reducible rfl
                        rotate_left
                        · simp only [Act.put, List.setIfInBounds_toArray, List.set_cons_zero, List.set_cons_succ, i64_w, i32_w]
                          rfl
                        refine pure_ (i := 8) (N := some 142) (v := ?_) (a' := ?_) #[true, true, true, true, true, false, true, true, true, false, false, false, false, false, false, false, false, false, false, false, false] rfl rfl (by kernel_rfl) (fun _ _ _ h => h) (Or.inl ⟨by rfl, ?_⟩) ?_ ?_
                        rotate_left
                        · intro w'
                          go_simp
                          with_reducible rfl
                        rotate_left
                        · simp only [Act.put, List.setIfInBounds_toArray, List.set_cons_zero, List.set_cons_succ, i64_w, i32_w]
                          rfl
                        refine pure_ (i := 9) (N := some 143) (v := ?_) (a' := ?_) #[true, true, true, true, true, false, true, true, true, true, false, false, false, false, false, false, false, false, false, false, false] rfl rfl (by kernel_rfl) (fun _ _ _ h => h) (Or.inl ⟨by rfl, ?_⟩) ?_ ?_
                        rotate_left
                        · intro w'
                          go_simp
                          with_reducible rfl
                        rotate_left
                        · simp only [Act.put, List.setIfInBounds_toArray, List.set_cons_zero, List.set_cons_succ, i64_w, i32_w]
                          rfl
                        refine pure_ (i := 11) (N := some 145) (v := ?_) (a' := ?_) #[true, true, true, true, true, false, true, true, true, true, false, true, false, false, false, false, false, false, false, false, false] rfl rfl (by kernel_rfl) (fun _ _ _ h => h) (Or.inl ⟨by rfl, ?_⟩) ?_ ?_
                        rotate_left
                        · intro w'
                          go_simp
                          with_reducible rfl
                        rotate_left
                        · simp only [Act.put, List.setIfInBounds_toArray, List.set_cons_zero, List.set_cons_succ, i64_w, i32_w]
                          rfl
                        refine pure_ (i := 12) (N := some 146) (v := ?_) (a' := ?_) #[true, true, true, true, true, false, true, true, true, true, false, true, true, false, false, false, false, false, false, false, false] rfl rfl (by kernel_rfl) (fun _ _ _ h => h) (Or.inl ⟨by rfl, ?_⟩) ?_ ?_
                        rotate_left
                        · intro w'
                          go_simp
                          with_reducible rfl
                        rotate_left
                        · simp only [Act.put, List.setIfInBounds_toArray, List.set_cons_zero, List.set_cons_succ, i64_w, i32_w]
                          rfl
                        refine pure_ (i := 13) (N := some 147) (v := ?_) (a' := ?_) #[true, true, true, true, true, false, true, true, true, true, false, true, true, true, false, false, false, false, false, false, false] rfl rfl (by kernel_rfl) (fun _ _ _ h => h) (Or.inl ⟨by rfl, ?_⟩) ?_ ?_
                        rotate_left
                        · intro w'
                          go_simp
                          with_reducible rfl
                        rotate_left
                        · simp only [Act.put, List.setIfInBounds_toArray, List.set_cons_zero, List.set_cons_succ, i64_w, i32_w]
                          rfl
                        refine pure_ (i := 14) (N := some 148) (v := ?_) (a' := ?_) #[true, true, true, true, true, false, true, true, true, true, false, true, true, true, true, false, false, false, false, false, false] rfl rfl (by kernel_rfl) (fun _ _ _ h => h) (Or.inl ⟨by rfl, ?_⟩) ?_ ?_
                        rotate_left
                        · intro w'
                          go_simp
                          with_reducible rfl
                        rotate_left
                        · simp only [Act.put, List.setIfInBounds_toArray, List.set_cons_zero, List.set_cons_succ, i64_w, i32_w]
                          rfl
                        refine pure_ (i := 15) (N := some 149) (v := ?_) (a' := ?_) #[true, true, true, true, true, false, true, true, true, true, false, true, true, true, true, true, false, false, false, false, false] rfl rfl (by kernel_rfl) (fun _ _ _ h => h) (Or.inl ⟨by rfl, ?_⟩) ?_ ?_
                        rotate_left
                        · intro w'
                          go_simp
                          with_reducible rfl
                        rotate_left
                        · simp only [Act.put, List.setIfInBounds_toArray, List.set_cons_zero, List.set_cons_succ, i64_w, i32_w]
                          rfl
                        refine take_ (i := 5) (N := some 139) (v := ?_) (a' := ?_) #[true, true, true, true, true, true, true, true, true, true, false, true, true, true, true, true, false, false, false, false, false] rfl rfl (by kernel_rfl) (fun _ _ _ h => h) (Or.inl ⟨by rfl, ?_⟩) hHeld ?_ ?_
                        rotate_left
                        · rintro w' ⟨s0, s1, s2⟩
                          go_simp
                          with_reducible rfl
                        rotate_left
                        · simp only [Act.put, List.setIfInBounds_toArray, List.set_cons_zero, List.set_cons_succ, i64_w, i32_w]
                          rfl
                        refine take_ (i := 10) (N := some 144) (v := ?_) (a' := ?_) #[true, true, true, true, true, true, true, true, true, true, true, true, true, true, true, true, false, false, false, false, false] rfl rfl (by kernel_rfl) (fun _ _ _ h => h) (Or.inl ⟨by rfl, ?_⟩) hHeld ?_ ?_
                        rotate_left
                        · rintro w' ⟨s0, s1, s2⟩
                          go_simp
                          with_reducible rfl
                        rotate_left
                        · simp only [Act.put, List.setIfInBounds_toArray, List.set_cons_zero, List.set_cons_succ, i64_w, i32_w]
                          rfl
                        refine take_ (i := 16) (N := some 150) (v := ?_) (a' := ?_) #[true, true, true, true, true, true, true, true, true, true, true, true, true, true, true, true, true, false, false, false, false] rfl rfl (by kernel_rfl) (fun _ _ _ h => h) (Or.inl ⟨by rfl, ?_⟩) hHeld ?_ ?_
                        rotate_left
                        · rintro w' ⟨s0, s1, s2⟩
                          go_simp
                          with_reducible rfl
                        rotate_left
                        · simp only [Act.put, List.setIfInBounds_toArray, List.set_cons_zero, List.set_cons_succ, i64_w, i32_w]
                          rfl
                        refine pure_ (i := 17) (N := some 151) (v := ?_) (a' := ?_) #[true, true, true, true, true, true, true, true, true, true, true, true, true, true, true, true, true, true, false, false, false] rfl rfl (by kernel_rfl) (fun _ _ _ h => h) (Or.inl ⟨by rfl, ?_⟩) ?_ ?_
                        rotate_left
                        · intro w'
                          go_simp
                          with_reducible rfl
                        rotate_left
                        · simp only [Act.put, List.setIfInBounds_toArray, List.set_cons_zero, List.set_cons_succ, i64_w, i32_w]
                          rfl
                        refine one_ (i := 18) (N := some 152) #[true, true, true, true, true, true, true, true, true, true, true, true, true, true, true, true, true, true, true, false, false] rfl rfl (by kernel_rfl) (by decide) (fun K hK => ?_)
                        refine value_ (w1 := ?_) (v := ?_) (by rfl) rfl ?_ ?_
                        rotate_left 2
                        · go_simp
                          constructor
                          · rfl
                          · rfl
                        refine hK.out _ _ ⟨pw_cell_below (below_alloc (below_drew HLr.out) _) HX0.out, pw_cell_below (below_alloc (below_drew HLr.out) _) HX1.out, pw_cell_below (below_alloc (below_drew HLr.out) _) HX2.out⟩ (fun hHeld => ?_)
                        clear hK K
                        refine norm_ (a' := ?_) ?_ ?_
                        rotate_left
                        · show Act.put _ (some 152) _ = _
                          simp only [Act.put, List.setIfInBounds_toArray, List.set_cons_zero, List.set_cons_succ, i64_w, i32_w]
                          rfl
                        refine one_ (i := 19) (N := some 153) #[true, true, true, true, true, true, true, true, true, true, true, true, true, true, true, true, true, true, true, true, false] rfl rfl (by kernel_rfl) (by decide) (fun K hK => ?_)
                        refine Kd.N_append_step k66 (W := wr.drew) (w0 := w3) w3.heap.size (by rfl) (.tmp 134) (.tmp 152) 27 66 (.agg #[.int .i64 0, .int .i64 0, .slice none 0 0, .slice none 0 0]) 64 rfl Try.underlying27 info66 rfl (by decide) (by omega) u13 ((cs.take i).map turnS) (⟨cc.f0, cc.f1, ks, cc.f2⟩ : S66) [.int .i64 cc.f0, .int .i64 cc.f1, .slice Aq ks.length cq, .slice Ag cc.f2.length dg] (fun _ => True) (fun k => some k ≠ u13.ownBlock) rfl rfl HEL.out (fun _ hk => ⟨trivial, hk⟩) (fun _ _ => trivial) (Kd.N_drew HN1.out) (below_drew HB.out) (below_drew HB.out).size (by omega) ?_
                        intro v5 w9 ho hb9 hg hat
                        have HN9 := Lib.hid ho
                        have HO9 := Lib.hid (OB.over (pw_own_below HO.out (below_drew (Below.refl _ _))) (Kd.N_typed (Kd.N_drew HN1.out)) (by decide) hg)
                        have HB9 := Lib.hid hb9
                        have HL9 := below_then HLO3.out HLO3.out.size hb9
                        refine hK.out _ _ ⟨pw_cell_below HL9 HX0.out, pw_cell_below HL9 HX1.out, pw_cell_below HL9 HX2.out⟩ (fun hHeld => ?_)
                        clear hK K
                        refine norm_ (a' := ?_) ?_ ?_
                        rotate_left
                        · show Act.put _ (some 153) _ = _
                          simp only [Act.put, List.setIfInBounds_toArray, List.set_cons_zero, List.set_cons_succ, i64_w, i32_w]
                          rfl
                        refine pure_ (i := 20) (N := some 13) (v := ?_) (a' := ?_) #[true, true, true, true, true, true, true, true, true, true, true, true, true, true, true, true, true, true, true, true, true] rfl rfl (by kernel_rfl) (fun _ _ _ h => h) (Or.inl ⟨by rfl, ?_⟩) ?_ ?_
                        rotate_left
                        · intro w'
                          go_simp
                          with_reducible rfl
                        rotate_left
                        · simp only [Act.put, List.setIfInBounds_toArray, List.set_cons_zero, List.set_cons_succ, i64_w, i32_w]
                          rfl
                        refine done_ (by kernel_rfl) ?_
                        clear ho hb9 hg hat HN1 HO HB HEL HLr y0 y1 y2 y3 HR HL9 hHeld
                        go_wp2_with fail
                        go_roundw
                        case rel => exact ⟨i + 1, by go_num, by omega, by rw [HTS.out, HTE.out]; exact HN9, HO9, HB9, HAP⟩
                        case measure => first | (simp [intOf]; omega) | (simp [intOf]; done)
              · obtain rfl : i = cs.length := by omega
                rw [List.take_length] at HN
                have HAL : Hid (Alone (chsOf cs)) := Lib.hid (alone_of HAP.out)
                obtain ⟨ms, hms⟩ : ∃ ms, ms = cs.map turnS := ⟨_, rfl⟩
                rw [← hms] at HN
                have HMS : Hid (chsOf ms = (chsOf cs).map turnC) := Lib.hid (by rw [hms, chsOf_turn])
                have hcfm : ms.length ≤ 1000 := by rw [hms, List.length_map]; exact hcf
                have HWM : Hid (∀ c ∈ ms, inW c.f0 = true ∧ inW c.f1 = true) := Lib.hid (fun c hc => by
                  rw [hms, List.mem_map] at hc
                  obtain ⟨c0, h0, rfl⟩ := hc
                  exact HWs.out c0 h0)
                obtain ⟨Am, cm, rfl, hcm, hCm⟩ := Kd.N_reads HN.out
                have HCM := Lib.hid hCm
                obtain ⟨An, cn, hvn, hcn, hRn⟩ := OB.reads HO.out
                injection hvn with hv1 hv2 hv3
                subst hv1
                have HRN := Lib.hid hRn
                have HLr := Lib.hid (below_then HLO3.out HLO3.out.size HB.out)
                have hbxr := HBX3.out.below HB.out HBX3.out.lt
                have e0 := hbxr.cell 0 _ rfl
                have e1 := hbxr.cell 1 _ rfl
                have e2 := hbxr.cell 2 _ rfl
                have e3 := hbxr.cell 3 _ rfl
                have HBXr := Lib.hid hbxr
                have hfl1 := flow_any s p A2 n2 c2 A3 c3 l03 N As cst start Al cl cs true wr (Kd.C_below HC.out HLr.out) HFEW.out hn30 (Kd.C_below HS.out HLr.out) hs (Kd.C_below HCs.out HLr.out) hcl hcf HWs.out
                rw [Int.toNat_natCast] at hfl1
                have HF1 := Lib.hid hfl1
                clear hms hCm hRn hv2 hv3 hfl1 hbxr hlt hi HN HO HAP HBX3 hcn
                go_wp2_with fail
                refine HF1.out.mono ?_
                rintro e w5 ⟨v5, rfl, hN5, hb5⟩
                obtain ⟨Axx, cxx, rfl⟩ := hN5.slice
                rw [flowL_length, bksOf_length]
                have HL5 := Lib.hid (below_then HLr.out HLr.out.size hb5)
                have hbx5 := HBXr.out.below hb5 HBXr.out.lt
                have hfl2 := flow_any s p A2 n2 c2 A3 c3 l03 N (some ⟨w3.heap.size, 0, none⟩) N first Am cm ms false w5 (Kd.C_below HC.out HL5.out) HFEW.out hn30 (Kd.C_below HRN.out hb5) (by rw [HFL.out]; exact Nat.le_refl _) (Kd.C_below HCM.out hb5) hcm hcfm HWM.out
                rw [Int.toNat_natCast, HFL.out] at hfl2
                have HF2 := Lib.hid hfl2
                have HN5 := Lib.hid hN5
                clear e0 e1 e2 e3 hb5 hfl2 HF1 hN5
                have e0 := hbx5.cell 0 _ rfl
                have e1 := hbx5.cell 1 _ rfl
                have e2 := hbx5.cell 2 _ rfl
                have e3 := hbx5.cell 3 _ rfl
                clear hbx5
                go_wp2_with fail
                refine HF2.out.mono ?_
                rintro e w6 ⟨v6, rfl, hN6, hb6⟩
                obtain ⟨Ayy, cyy, rfl⟩ := hN6.slice
                rw [flowL_length, bksOf_length]
                have HLO6 := Lib.hid (below_then HL5.out HL5.out.size hb6)
                have HNX := Lib.hid (HN5.out.below hb6)
                have HNY := Lib.hid hN6
                have HFM : Hid (∀ (i : Nat) (X Y : List (List Bool)), (flowL (bksOf l03) N start (chsOf cs) true)[i]? = some X → (flowL (bksOf l03) N first (chsOf ms) false)[i]? = some Y → X.length = Y.length ∧ ∀ (k : Nat) (x y : List Bool), X[k]? = some x → Y[k]? = some y → x.length = N ∧ y.length = N ∧ ∀ (j : Nat) (a b : Bool), x[j]? = some a → y[j]? = some b → b = !a) :=
                  Lib.hid (fun i X Y hX hY => by
                    rw [HMS.out] at hY
                    exact flow_turn HAL.out HFG.out hX hY)
                have hxl : Hid ((flowL (bksOf l03) N start (chsOf cs) true).length = l03.length) := Lib.hid (by rw [flowL_length, bksOf_length])
                have hyl : Hid ((flowL (bksOf l03) N first (chsOf ms) false).length = l03.length) := Lib.hid (by rw [flowL_length, bksOf_length])
                generalize flowL (bksOf l03) N start (chsOf cs) true = xsss at *
                generalize flowL (bksOf l03) N first (chsOf ms) false = ysss at *
                clear hb6 hN6 HF2 HL5 HN5 e0 e1 e2 e3 HC HS HCs HWs hcf HCM HRN HFL HFG HMS HAL HWM hcfm
                go_wp2_with fail
                go_loopw [20] (fun u wr => ∃ i : Nat, u = .int .i64 i ∧ i ≤ l03.length ∧ Hid (Below w6.heap.size w6 wr)) (fun u _ => l03.length - (intOf u).toNat)
                case atStart => exact ⟨0, rfl, Nat.zero_le _, Lib.hid (Below.refl _ _)⟩
                case round =>
                  obtain ⟨i, rfl, hi, HW⟩ := hrel
                  by_cases hlt : i < l03.length
                  · obtain ⟨X, hX⟩ : ∃ X, xsss[i]? = some X := ⟨_, List.getElem?_eq_getElem (by have := hxl.out; omega)⟩
                    obtain ⟨Y, hY⟩ : ∃ Y, ysss[i]? = some Y := ⟨_, List.getElem?_eq_getElem (by have := hyl.out; omega)⟩
                    obtain ⟨hXY, hK⟩ := HFM.out i X Y hX hY
                    obtain ⟨gx, cx', Ax, dx, ex, hcx, hnx⟩ := HNX.out.at_ hX
                    obtain ⟨gy, cy', Ay, dy, ey, hcy, hny⟩ := HNY.out.at_ hY
                    injection ex with ex1 ex2 ex3
                    injection ey with ey1 ey2 ey3
                    subst ex1 ey1 ex3 ey3
                    clear ex2 ey2 hX hY
                    rw [← hXY] at hcy hny
                    have hsX : X.length ≤ 9223372036854775807 := own_len2 hnx.own.choose_spec.1
                    have zx := pw_cell_below HW.out hcx
                    have zy := pw_cell_below HW.out hcy
                    have HNx := Lib.hid hnx
                    have HNy := Lib.hid hny
                    have HK := Lib.hid hK
                    have HXY := Lib.hid hXY
                    clear hnx hny hK hXY
                    go_wp2_with fail
                    go_quiet (fail)
                    have HW2 : Hid (Below w6.heap.size w6 (wr.drewN nq)) := Lib.hid (pw_below_drewN HW.out _)
                    clear zx zy HW
                    go_wp2_with fail
                    go_loopw [21] (fun u wr => ∃ k : Nat, u = .int .i64 k ∧ k ≤ X.length ∧ Hid (Below w6.heap.size w6 wr)) (fun u _ => X.length - (intOf u).toNat)
                    case atStart => exact ⟨0, rfl, Nat.zero_le _, HW2⟩
                    case round =>
                      clear HW2
                      obtain ⟨k, rfl, hk, HW⟩ := hrel
                      have zx := pw_cell_below HW.out hcx
                      have zy := pw_cell_below HW.out hcy
                      by_cases hlt2 : k < X.length
                      · obtain ⟨x, hx⟩ : ∃ x, X[k]? = some x := ⟨_, List.getElem?_eq_getElem hlt2⟩
                        obtain ⟨y, hy⟩ : ∃ y, Y[k]? = some y := ⟨_, List.getElem?_eq_getElem (by have := HXY.out; omega)⟩
                        obtain ⟨hxl', hyl', hJ⟩ := HK.out k x y hx hy
                        obtain ⟨hu, cu', Au, du, eu, hcu, hou⟩ := HNx.out.at_ hx
                        obtain ⟨hv, cv', Av, dv, ev, hcv, hov⟩ := HNy.out.at_ hy
                        injection eu with eu1 eu2 eu3
                        injection ev with ev1 ev2 ev3
                        subst eu1 ev1 eu3 ev3
                        clear eu2 ev2 hx hy
                        rw [hxl'] at hcu hou
                        rw [hyl'] at hcv hov
                        have zu := pw_cell_below HW.out hcu
                        have zv := pw_cell_below HW.out hcv
                        have HOu := Lib.hid hou
                        have HOv := Lib.hid hov
                        have HJ := Lib.hid hJ
                        have HXl := Lib.hid hxl'
                        have HYl := Lib.hid hyl'
                        clear hou hov hJ hxl' hyl'
                        go_wp2_with fail
                        clear zx zy zu zv
                        go_loopw [22] (fun u wr => ∃ j : Nat, u = .int .i64 j ∧ j ≤ N ∧ Hid (Below w6.heap.size w6 wr)) (fun u _ => N - (intOf u).toNat)
                        case atStart => exact ⟨0, rfl, Nat.zero_le _, HW⟩
                        case round =>
                          clear HW
                          obtain ⟨j, rfl, hj, HW⟩ := hrel
                          have zx := pw_cell_below HW.out hcx
                          have zy := pw_cell_below HW.out hcy
                          have zu := pw_cell_below HW.out hcu
                          have zv := pw_cell_below HW.out hcv
                          by_cases hlt3 : j < N
                          · obtain ⟨a, ha⟩ : ∃ a, x[j]? = some a := ⟨_, List.getElem?_eq_getElem (by have := HXl.out; omega)⟩
                            obtain ⟨b, hb⟩ : ∃ b, y[j]? = some b := ⟨_, List.getElem?_eq_getElem (by have := HYl.out; omega)⟩
                            obtain rfl := HJ.out j a b ha hb
                            obtain ⟨ga, rfl, hca⟩ := HOu.out.at2 ha
                            obtain ⟨gb, rfl, hcb'⟩ := HOv.out.at2 hb
                            have za := pw_cell_below HW.out hca
                            have zb := pw_cell_below HW.out hcb'
                            clear hca hcb' ha hb
                            cases a <;>
                            · go_wp2_with fail
                              go_quiet (fail)
                              go_wp2_with fail
                              go_roundw
                              case rel => exact ⟨j + 1, by go_num, by omega, Lib.hid (pw_below_drewN HW.out _)⟩
                              case measure => first | (simp [intOf]; omega) | (simp [intOf]; done)
                          · obtain rfl : N = j := by omega
                            clear hlt3 hj
                            go_wp2_with fail
                            go_roundw
                            case rel => exact ⟨k + 1, by go_num, by omega, HW⟩
                            case measure => first | (simp [intOf]; omega) | (simp [intOf]; done)
                      · obtain rfl : k = X.length := by omega
                        clear hlt2 hk
                        go_wp2_with fail
                        go_roundw
                        case rel => exact ⟨i + 1, by go_num, by omega, HW⟩
                        case measure => first | (simp [intOf]; omega) | (simp [intOf]; done)
                  · obtain rfl : i = l03.length := by omega
                    clear hlt hi
                    go_wp2_with fail
                    go_ret
                    exact ⟨rfl, below_then HLO6.out HLO6.out.size HW.out⟩
end Go.Proofs.Ythgnbeeobhfeaaa.T
end
