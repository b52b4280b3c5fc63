/- Texts of this claim in one file: H10b, H21. -/
import Derived.Test.YthgnbeeobhfeaaaK5
import Derived.Test.YthgnbeeobhfeaaaK8
set_option linter.all false
section
/- Walks: looking at blocks till nothing changes (the program's), of rows of rows. -/
namespace Go.Proofs.Ythgnbeeobhfeaaa.T
open Go.RowKit Go.Shelf Go.Proofs.YthgnbeeobhfeaaaW.PrintWords Go.Proofs.YthgnbeeobhfeaaaW.PrintLast
attribute [local go_sem] Oper.semAt_some

set_option maxRecDepth 100000 in
set_option maxHeartbeats 8000000 in
theorem settleB_any {X : Type} {m b1 go : Nat} {capo : Nat} {c1 c2 : Value} {St : (Nat → X) → World → Prop} {P : World → Value → X → Prop} {g : (Nat → X) → Nat → X} {nx : Nat → List Int} {eqv : X → X → Bool} {Phi : List Int → (Nat → X) → Prop} {pot : (Nat → X) → Nat} {w : World}
    (hS : Settle X m w.heap.size b1 go 42 45 56 44 c1 c2 St P g nx eqv) (hW : Way X m g nx eqv Phi pot) (hm : m ≤ 1000) (A : Option Addr) (c : Nat) (l0 : List Int) (hl0 : (Kd.int .i64).C w A l0.length l0) (hl1 : l0.length ≤ c) (hl2 : l0.length ≤ 1000) (hl3 : ∀ x ∈ l0, 0 ≤ x ∧ x < (m : Int)) (o : Nat → X) (h0 : St o w) (hP : Phi (putAll [] l0) o) (hgo : go < w.heap.size) (hb1 : b1 ≤ go) :
    Calls Try.prog 44 #[.slice (some ⟨go, 0, none⟩) m capo, .slice A l0.length c, .func (.func 42) #[] #[], .func (.func 45) #[] #[c1, c2]] w fun e w' => e = .returned (.tuple #[]) ∧ ∃ o', St o' w' ∧ Phi [] o' := by
  have hmk := fun W : World => run_makeMap (P := Try.prog) 103 W
  have HS := Lib.hid hS
  have HW := Lib.hid hW
  have HL := Lib.hid hl0
  have HP := Lib.hid hP
  have H0 := Lib.hid h0
  clear hS hW hl0 hP h0
  refine (callsIn_wide (n := 9)).1 ?_
  refine callsIn_of_wp_marks Try.func44 rfl trivial ?_ rfl
  simp only [Try.ntmps44, List.size_toArray, List.length_cons, List.length_nil, Nat.reduceAdd, Nat.reduceSub, Array.replicate_succ, Array.replicate_zero, List.push_toArray, List.append_toArray, List.nil_append, List.cons_append]
  gi_wp2
  gi_loopw [20] (fun u wr => ∃ i : Nat, u = .int .i64 i ∧ i ≤ l0.length ∧ Hid (ZS w wr (fun _ => True) (putAll [] (l0.take i))) ∧ Hid (Below w.heap.size w wr) ∧ Hid (St o wr)) (fun u _ => l0.length - (intOf u).toNat)
  case atStart => exact ⟨0, rfl, Nat.zero_le _, Lib.hid (ZS.start w), Lib.hid (below_alloc (below_alloc (below_alloc (Below.refl _ _) _) _) _), Lib.hid (HS.out.below _ _ _ H0.out (below_alloc (below_alloc (below_alloc (Below.refl _ _) _) _) _))⟩
  case round =>
    obtain ⟨i, rfl, hi, HZ, HB, HT⟩ := hrel
    by_cases hlt : i < l0.length
    · have hmem : l0[i] ∈ l0 := List.getElem_mem hlt
      have hx := hl3 _ hmem
      have htk : putAll [] (l0.take (i + 1)) = putQ (putAll [] (l0.take i)) l0[i] := by
        rw [List.take_succ, List.getElem?_eq_getElem hlt]
        exact List.foldl_append
      have hll : (putAll [] (l0.take i)).length ≤ 1000 := by
        obtain ⟨vl, hq⟩ := HZ.out.que
        refine Nat.le_trans (nodup_few hq.nod (m := m) (fun y hy => ?_)) hm
        rcases putAll_mem.1 hy with h | h
        · cases h
        · exact hl3 y (List.mem_of_mem_take h)
      obtain ⟨ad, had, hac⟩ := Kd.at_int (Kd.C_below HL.out HB.out) (i : Int) (by omega) (by omega)
      rw [rd_nat, Int.toNat_natCast, show l0.getD i 0 = l0[i] by simp [List.getD_eq_getElem?_getD, List.getElem?_eq_getElem hlt]] at hac
      subst had
      have HTK := Lib.hid htk
      have hin := inW_small hx.1 (by omega)
      generalize l0[i] = x at *
      have hput := HZ.out.putQ x hin hll (fun _ _ => trivial)
      have hcb : wr.cell? ⟨w.heap.size + 1 + 1, 0, none⟩ = some (.pointer (some ⟨w.heap.size + 1, 0, none⟩)) := HZ.out.box.cell 0 _ rfl
      have HX := Lib.hid hx
      have HPU := Lib.hid hput
      clear htk hput hmem hx hll
      gi_wp2
      refine ⟨trivial, (callsIn_wide.2 HPU.out).mono ?_⟩
      rintro e w3 ⟨rfl, hz3, hb3, hk3, _⟩
      have HZ3 := Lib.hid hz3
      have HB3 := Lib.hid (HB.out.trans hb3)
      have HT3 := Lib.hid (HS.out.queue _ _ _ HT.out hb3 hk3)
      clear hz3 hb3 hk3
      gi_wp2
      go_roundw
      case rel => exact ⟨i + 1, by go_num, by omega, Lib.hid (by rw [HTK.out]; exact HZ3.out), HB3, HT3⟩
      case measure => simp [intOf]; omega
    · obtain rfl : i = l0.length := by omega
      rw [List.take_length] at HZ
      clear hlt hi HB
      gi_wp2
      refine wpIn_loop_ghost_k (fun N_ a' wr => ∃ (u11 u12 u13 u14 u28 u29 u30 u31 u32 u33 u34 u35 u36 u37 u38 u39 u40 u41 u42 u43 u44 u45 u46 u47 u48 u49 u50 u51 u52 u53 u54 u55 u56 u57 : Value) (ds : List Deferred), a' = { tmps := #[Value.slice (some ⟨go, 0, none⟩) m capo, Value.slice A l0.length c, Value.func (Fn.func 42) #[] #[], Value.func (Fn.func 45) #[] #[c1, c2], undef, undef, undef, undef, Value.pointer (some ⟨w.heap.size + 1 + 1, 0, none⟩), undef, u10, u11, u12, u13, u14, Value.map (some w.heap.size), Value.agg #[Value.slice none 0 0, Value.map (some w.heap.size)], Value.pointer (some ⟨w.heap.size + 1, 0, none⟩), Value.slice A l0.length c, Value.int IntKind.i64 l0.length, Value.int IntKind.i64 l0.length, Value.bool false, u22, u23, u24, u25, u26, u27, u28, u29, u30, u31, u32, u33, u34, u35, u36, u37, u38, u39, u40, u41, u42, u43, u44, u45, u46, u47, u48, u49, u50, u51, u52, u53, u54, u55, u56, u57], defers := ds } ∧ ∃ (l : List Int) (o' : Nat → X), N_ = pot o' * (m + 1) + l.length ∧ Hid (Phi l o') ∧ Hid (ZS w wr (fun _ => True) l) ∧ Hid (St o' wr) ∧ Hid (Marks w.heap.size wr.heap.size wr ds)) (pot o * (m + 1) + (putAll [] l0).length) ?_ ?_
      · refine ⟨_, _, _, _, _, _, _, _, _, _, _, _, _, _, _, _, _, _, _, _, _, _, _, _, _, _, _, _, _, _, _, _, _, _, _, rfl, ?_⟩
        exact ⟨_, o, rfl, HP, HZ, HT, Lib.hid (Marks.nil _ _ _)⟩
      rintro N_ a' wr ⟨u11, u12, u13, u14, u28, u29, u30, u31, u32, u33, u34, u35, u36, u37, u38, u39, u40, u41, u42, u43, u44, u45, u46, u47, u48, u49, u50, u51, u52, u53, u54, u55, u56, u57, ds, rfl, hrel⟩ J_ K_ hJ hK
      obtain ⟨l, o', rfl, HPh, HZ, HT, HM⟩ := hrel
      have hcb : wr.cell? ⟨w.heap.size + 1 + 1, 0, none⟩ = some (.pointer (some ⟨w.heap.size + 1, 0, none⟩)) := HZ.out.box.cell 0 _ rfl
      obtain ⟨vl, hq⟩ := HZ.out.que
      obtain ⟨Aq, cq, rfl, hlq⟩ := Kd.Q_slice hq.row
      have hcq : wr.cell? ⟨w.heap.size + 1, 0, none⟩ = some (.slice Aq l.length cq) := hq.blk.cell 0 _ rfl
      cases l with
      | nil =>
        clear hJ hK hq hlq
        gi_wp2
        refine Marks.leaves HM.out (.tuple #[]) (fun W => results_none rfl _ _ _) (fun W' hs => ?_)
        exact ⟨rfl, o', HS.out.queue _ _ _ HT.out (hs.below (Below.refl _ _) (Nat.le_refl _)) (fun k _ ht => by obtain ⟨c', t', hc', _⟩ := ht; exact hs.block k (.inr ⟨c', t', (0, 0), hc'⟩)), HPh.out⟩
      | cons x l =>
        have hxr := HW.out.rng _ _ HPh.out x List.mem_cons_self
        obtain ⟨n, rfl⟩ := Int.eq_ofNat_of_zero_le hxr.1
        have hnm : n < m := by omega
        have hfew := nodup_few hq.nod (HW.out.rng _ _ HPh.out)
        have htk := take_q hq (inW_small hxr.1 (by omega)) (by simp at hfew; omega)
        have HTK := Lib.hid htk
        clear htk hq
        gi_wp2
        refine ⟨trivial, (callsIn_wide.2 HTK.out).mono ?_⟩
        rintro e w3 ⟨rfl, ⟨v3, hq3⟩, hk3, hb3⟩
        have hqw := Lib.hid hq3
        obtain ⟨vl0, hq0⟩ := HZ.out.que
        have HT3 := Lib.hid (HS.out.queue _ _ _ HT.out hb3 (fun k hlt ht => hk3.typed hq0 k hlt ht))
        have HX3 : Hid (BoxIs w3 (w.heap.size + 2) #[.pointer (some ⟨w.heap.size + 1, 0, none⟩)] 102) := Lib.hid ((hk3.typed hq0 _ HZ.out.box.lt ⟨_, _, HZ.out.box, by decide, by decide⟩).trans HZ.out.box)
        have HTsz := hb3.size
        have HM3 : Hid (Marks w.heap.size wr.heap.size w3 ds) := Lib.hid (hk3.marks hq0 HM.out)
        have hlk := HS.out.look _ _ n HT3.out hnm
        have HLK := Lib.hid hlk
        clear hq3 hk3 hq0 hb3 hlk
        gi_wp2
        refine ⟨trivial, (callsIn_wide.2 HLK.out).mono ?_⟩
        rintro e w4 ⟨u, lb, gb, ga, rfl, hPu, hb4, hgb, hga, hgb', hga', hseq⟩
        have HT4 := Lib.hid (HS.out.below _ _ _ HT3.out hb4)
        obtain ⟨uo, huo, hPo⟩ := HS.out.get _ _ n HT4.out hnm
        obtain ⟨Au, ku, cu, rfl⟩ := HS.out.sl _ _ _ hPu
        obtain ⟨Ao, ko, co, rfl⟩ := HS.out.sl _ _ _ hPo
        have hsame := HS.out.same _ _ _ _ _ hPu hPo
        have HSA := Lib.hid hsame
        have HPU := Lib.hid hPu
        have HSQ := Lib.hid hseq
        have HB4 := Lib.hid hb4
        have p0 : ((0 : Int) ≤ (n : Int)) = True := eq_true (by omega)
        have p1 : ((n : Int) < (m : Int)) = True := eq_true (by omega)
        clear hPu hPo hseq hsame hb4
        gi_wp2
        refine ⟨trivial, (callsIn_wide.2 HSA.out).mono ?_⟩
        rintro e w5 ⟨rfl, hb5⟩
        have hb45 := HB4.out.trans (hb5.mono HB4.out.size)
        have HT5 := Lib.hid (HS.out.below _ _ _ HT4.out hb5)
        have HM5 : Hid (Marks w.heap.size w5.heap.size w5 ds) := Lib.hid ((HM3.out.grown (grown_of_below hb45 none) (fun _ e => by cases e)).upto (Nat.le_trans HTsz (Nat.le_trans HB4.out.size hb5.size)))
        have HZ5 : Hid (ZS w w5 (fun _ => True) l) := Lib.hid ((ZS.below ⟨HX3.out, v3, hqw.out⟩ hb45))
        have HB45 := Lib.hid hb45
        have HPU5 := Lib.hid (HS.out.pb _ _ _ _ HPU.out hb5)
        have HB5 := Lib.hid hb5
        clear hb5 hb45
        cases heq : eqv (g o' n) (o' n) with
        | true =>
          gi_wp2
          refine ⟨pot o' * (m + 1) + l.length, by simp, hJ _ _ _ ⟨_, _, _, _, _, _, _, _, _, _, _, _, _, _, _, _, _, _, _, _, _, _, _, _, _, _, _, _, _, _, _, _, _, _, _, rfl, l, o', rfl, Lib.hid (HW.out.same n l o' HPh.out heq), HZ5, HT5, HM5⟩⟩
        | false =>
          obtain ⟨cg, hcg⟩ := HS.out.blk _ _ HT5.out (by omega)
          have hfz : w5.frozen? ⟨go, n, none⟩ = false := by simp [World.frozen?, hcg]
          obtain ⟨uo5, huo5, _⟩ := HS.out.get _ _ n HT5.out hnm
          have hset := set_grown w5 go n (.slice Au ku cu)
          have HT6 := Lib.hid (HS.out.put _ _ n _ _ HT5.out hnm HPU5.out)
          have HM6 : Hid (Marks w.heap.size w5.heap.size (w5.setCell ⟨go, n, none⟩ (.slice Au ku cu)) ds) := Lib.hid (HM5.out.grown hset (fun k e => by injection e with e; subst e; exact .inr ⟨_, _, _, hcg⟩))
          have HZ6 : Hid (ZS w (w5.setCell ⟨go, n, none⟩ (.slice Au ku cu)) (fun k => k < w3.heap.size ∨ w4.heap.size ≤ k) l) := Lib.hid (by
            have hq5 := hqw.out.below HB45.out
            obtain ⟨n0, f, hM, hf⟩ := hq5.map
            refine ⟨HZ5.out.box.grown hset (fun e => by injection e with e; omega), v3, hq5.blk.grown hset (fun e => by injection e with e; omega), ?_, ⟨n0, f, hM.grown hset (fun e => by injection e with e; omega), hf⟩, hq5.nod, by rw [World.size_setCell]; exact hq5.hBs, hq5.hBq, hq5.hBm⟩
            exact Kd.Q_mono (Kd.Q_grown (Kd.Q_below (Kd.Q_bound hqw.out.row) HB45.out) hset (fun k hk e => by injection e with e; have := hk.2.1; omega)) (fun k hk => .inl hk.2.2.1))
          have hszz := World.size_setCell w5 ⟨go, n, none⟩ (.slice Au ku cu)
          have hs34 := HB4.out.size
          have hs45 := HB5.out.size
          have hsw3 := hqw.out.hBs
          have hseq6 := HSQ.out (w5.setCell ⟨go, n, none⟩ (.slice Au ku cu)) ⟨((HB5.out.mono (show b1 ≤ w4.heap.size by omega)).trans ((Below.refl b1 w5).grown hset (by omega) (fun k e => by injection e with e; omega))), (hset.block _ (by omega) (fun e => by injection e with e; omega)).trans (HB5.out.block _ hgb'), (hset.block _ (by omega) (fun e => by injection e with e; omega)).trans (HB5.out.block _ hga')⟩
          have HSQ6 := Lib.hid hseq6
          have hset' := Lib.hid hset
          have hszz' := Lib.hid hszz
          clear hseq6 hset hszz
          gi_wp2
          have hs6 : (w5.setCell ⟨go, n, none⟩ (.slice Au ku cu)).heap.size = w5.heap.size := hszz'.out
          generalize w5.setCell ⟨go, n, none⟩ (.slice Au ku cu) = w6 at *
          refine wpIn_rangeFunc_ownG rfl (by decide) (gf := 56) (lb := lb) rfl trivial (enters_of Try.func56 (by kernel_rfl) rfl) HSQ6.out kp3_t (kp3_b (by omega) (by omega) (by omega)) (Below.refl _ _) (fun _ => rfl)
            (fun pre W => ZS w W (fun k => k < w3.heap.size ∨ w4.heap.size ≤ k) (putAll l (pre.map (·.1))) ∧ St (upd o' n (g o' n)) W ∧ Marks w.heap.size w5.heap.size W ds ∧ w5.heap.size ≤ W.heap.size)
            (fun _ _ _ => False) ?hI (fun _ _ _ _ _ hs _ _ => hs) ⟨HZ6.out, HT6.out, HM6.out, by omega⟩
            (fun x => { tmps := #[.slice (some ⟨go, 0, none⟩) m capo, .slice A l0.length c, .func (.func 42) #[] #[], .func (.func 45) #[] #[c1, c2], undef, undef, undef, undef, .pointer (some ⟨w.heap.size + 1 + 1, 0, none⟩), undef, u10, .int .i64 n, .slice Au ku cu, .func (.func 56) #[] lb, .int .i64 x.1, .map (some w.heap.size), .agg #[.slice none 0 0, .map (some w.heap.size)], .pointer (some ⟨w.heap.size + 1, 0, none⟩), .slice A l0.length c, .int .i64 l0.length, .int .i64 l0.length, .bool false, u22, u23, u24, u25, u26, u27, .pointer (some ⟨w.heap.size + 1, 0, none⟩), .pointer (some ⟨w.heap.size + 1, 0, none⟩), .pointer (some ⟨w.heap.size + 1, 0, none⟩), .slice Aq (l.length + 1) cq, .int .i64 ((l.length : Int) + 1), .bool true, .pointer (some ⟨w.heap.size + 1, 0, none⟩), .int .i64 n, .tuple #[.slice Au ku cu, .func (.func 56) #[] lb], .func (.func 45) #[] #[c1, c2], .int .i64 n, .tuple #[.slice Au ku cu, .func (.func 56) #[] lb], .slice Au ku cu, .func (.func 56) #[] lb, .func (.func 42) #[] #[], .slice Au ku cu, .slice (some ⟨go, 0, none⟩) m capo, .int .i64 n, .pointer (some ⟨go, n, none⟩), .slice Ao ko co, .bool false, .slice (some ⟨go, 0, none⟩) m capo, .int .i64 n, .slice Au ku cu, .pointer (some ⟨go, n, none⟩), .func (.func 56) #[] lb, .int .i64 x.1, u55, u56, u57], defers := [] }) ?assign ?body ?done ?stop
          case hI =>
            rintro pre W W' row ⟨h1, h2, h3, h4⟩ hg hr
            refine ⟨h1.quiet hg hr (by omega), HS.out.queue _ _ _ h2 ((Below.refl _ _).grown hg (by omega) (fun k e => by have := (hr k e).1; omega)) (fun k _ ht => ?_), h3.grown hg (fun k e => .inl (by have := (hr k e).1; omega)), Nat.le_trans h4 hg.size⟩
            obtain ⟨c', t', hc', _⟩ := ht
            exact own_quiet hg hr k c' t' (0, 0) hc'
          case assign =>
            intro ll x W K hK
            gi_wp2
            exact hK
          case stop =>
            rintro D c pre W _ _ h _
            exact h.elim
          case done =>
            rintro D ys W hD hys ⟨h1, h2, h3, h4⟩ hKD
            rw [hys] at h1
            have hmore := HW.out.more n l o' HPh.out heq
            obtain ⟨vl1, hq1⟩ := h1.que
            have hfew1 := nodup_few hq1.nod (HW.out.rng _ _ hmore.1)
            have hlt' : pot (upd o' n (g o' n)) * (m + 1) + (putAll l (nx n)).length < pot o' * (m + 1) + ((n : Int) :: l).length := by
              have h5 := Nat.mul_le_mul_right (m + 1) (Nat.succ_le_of_lt hmore.2)
              rw [Nat.succ_mul] at h5
              rw [List.length_cons]
              omega
            have hz : Hid (ZS w W (fun _ => True) (putAll l (nx n))) := Lib.hid ⟨h1.box, vl1, hq1.blk, Kd.Q_mono hq1.row (fun _ _ => trivial), hq1.map, hq1.nod, hq1.hBs, hq1.hBq, hq1.hBm⟩
            have ht := Lib.hid h2
            have hm' : Hid (Marks w.heap.size W.heap.size W (markOf D :: ds)) := Lib.hid (h3.cons (by omega) (by omega) (Array.getElem?_eq_some_iff.1 hKD).1 hKD)
            clear h1 h2 h3 hq1 hKD
            gi_wp2
            refine ⟨pot (upd o' n (g o' n)) * (m + 1) + (putAll l (nx n)).length, hlt', hJ _ _ _ ⟨_, _, _, _, _, _, _, _, _, _, _, _, _, _, _, _, _, _, _, _, _, _, _, _, _, _, _, _, _, _, _, _, _, _, _, rfl, putAll l (nx n), upd o' n (g o' n), rfl, Lib.hid hmore.1, hz, ht, hm'⟩⟩
          case body =>
            rintro ll pre ⟨y, hy⟩ W ⟨h1, h2, h3, h4⟩ hpl
            have hyr := HW.out.nxr n y hy
            obtain ⟨vl1, hq1⟩ := h1.que
            have hfew1 := nodup_few (m := m) hq1.nod (fun z hz => by
              rcases putAll_mem.1 hz with hz | hz
              · exact HW.out.rng _ _ HPh.out z (List.mem_cons_of_mem _ hz)
              · obtain ⟨z', _, rfl⟩ := List.mem_map.1 hz
                exact HW.out.nxr n _ z'.2)
            have hput := h1.putQ y (inW_small hyr.1 (by omega)) (by omega) (fun k hk => .inr (by omega))
            have hcb : W.cell? ⟨w.heap.size + 1 + 1, 0, none⟩ = some (.pointer (some ⟨w.heap.size + 1, 0, none⟩)) := h1.box.cell 0 _ rfl
            have H2 := Lib.hid h2
            have H3 := Lib.hid h3
            have HPT := Lib.hid hput
            have HQ1 := Lib.hid hq1
            clear h1 h2 h3 hput hq1
            gi_wp2
            refine ⟨trivial, (CallsIn.inRound ll (callsIn_wide.2 HPT.out)).mono ?_⟩
            rintro e w7 ⟨rfl, hz7, hb7, hk7, hq7⟩
            have hsz7 := hb7.size
            have hsW := HQ1.out.hBs
            have hbig : W.heap.size ≤ w7.heap.size := hb7.size
            have hb3s := HX3.out.lt
            have hm7 := hq7.marks HQ1.out H3.out
            have ht7 := HS.out.queue _ _ _ H2.out hb7 hk7
            gi_wp2
            refine ⟨⟨hbig, fun k ob hB hk ho => (hq7 k (Array.getElem?_eq_some_iff.1 hk).1 (by omega) (by omega) (.inr (fun c' hc' => by rw [hk] at hc'; cases hc'; cases ho))).trans hk⟩, ⟨hb7.mono (by omega), hq7 gb (by omega) (by omega) (by omega) (.inl (by omega)), hq7 ga (by omega) (by omega) (by omega) (.inl (by omega))⟩, ?_, ht7, hm7, Nat.le_trans h4 hbig⟩
            rw [List.map_append, List.map_singleton]
            show ZS w w7 _ (List.foldl T.putQ l (pre.map (·.1) ++ [y]))
            rw [List.foldl_append]
            exact hz7
end Go.Proofs.Ythgnbeeobhfeaaa.T
end

section
/- Walks: what is needed ahead of each step (the program's). -/
namespace Go.Proofs.Ythgnbeeobhfeaaa.T
open Go.RowKit Go.Shelf Go.Proofs.YthgnbeeobhfeaaaW.PrintWords Go.Proofs.YthgnbeeobhfeaaaW.PrintLast

theorem run_store_func {P : Program} {w : World} {ad : Addr} {m : Mode} (fn : Fn) (x y : Array Value) : (store ad (.func fn x y) m).run P w = stored P w ad (.func fn x y) m := run_store P w ad _ m rfl
attribute [local go_sem] run_store_func
/-- What Back has laid: its body, its table, the row of forerunners, the row of all. Wb: the world ahead of the last. -/
structure BPre (w Wb W : World) (gt gp ga go mb N : Nat) (s : ByteArray) (p : Int) (A2 : Option Addr) (n2 c2 : Nat) (A3 : Option Addr) (c3 : Nat) (l03 : List S58) (cs : List S66) (Ap : Option Addr) (cp : Nat) : Prop where
  tb : BoxIs W gt #[.int .i64 N, .map (some mb)] 76
  bod : BoxIs W w.heap.size (bodyC s p A2 n2 c2 A3 l03.length c3) 25
  pbx : BoxIs W gp #[.slice Ap l03.length cp] 39
  all : BoxIs W ga #[.slice (some ⟨go, 0, none⟩) l03.length l03.length] 31
  tab : TabIs w W w.heap.size mb cs
  bl : Below Wb.heap.size Wb W
  low : Below w.heap.size w W
  wb : w.heap.size ≤ Wb.heap.size
section
variable {w Wb W W' : World} {gt gp ga go mb N : Nat} {s : ByteArray} {p : Int} {A2 : Option Addr} {n2 c2 : Nat} {A3 : Option Addr} {c3 : Nat} {l03 : List S58} {cs : List S66} {Ap : Option Addr} {cp : Nat}
theorem BPre.typed (h : BPre w Wb W gt gp ga go mb N s p A2 n2 c2 A3 c3 l03 cs Ap cp) {T : TypeId} (hT : T ≠ 76 ∧ T ≠ 25 ∧ T ≠ 39 ∧ T ≠ 31 ∧ T ≠ 66) (hm : Stays T W W') (hb : Below Wb.heap.size W W') : BPre w Wb W' gt gp ga go mb N s p A2 n2 c2 A3 c3 l03 cs Ap cp :=
  ⟨h.tb.typed_move hT.1 hm, h.bod.typed_move hT.2.1 hm, h.pbx.typed_move hT.2.2.1 hm, h.all.typed_move hT.2.2.2.1 hm, h.tab.typed hT.2.2.2.2 hm, h.bl.trans hb, h.low.trans (hb.mono h.wb), h.wb⟩
theorem BPre.below (h : BPre w Wb W gt gp ga go mb N s p A2 n2 c2 A3 c3 l03 cs Ap cp) (hb : Below W.heap.size W W') : BPre w Wb W' gt gp ga go mb N s p A2 n2 c2 A3 c3 l03 cs Ap cp :=
  h.typed (T := 1000000) (by decide) (fun k ob hk _ => (hb.block k (Array.getElem?_eq_some_iff.1 hk).1).trans hk) (hb.mono h.bl.size)
end

theorem settleB_empty {w : World} (B0 : Nat) (hB : B0 = w.heap.size) (b1 go : Nat) (c1 c2 : Value) :
    Settle Unit 0 B0 b1 go 42 45 56 44 c1 c2 (fun _ W => Below w.heap.size w W) (fun _ _ _ => False) (fun _ _ => ()) (fun _ => []) (fun _ _ => true) := by
  subst hB
  exact ⟨fun o W W' h hb => below_then h h.size hb, fun o W W' h hb _ => h.trans hb, fun o W n _ hn => absurd hn (by omega), fun o W _ hm => absurd hm (by omega), fun o W n u x _ hn => absurd hn (by omega), fun W W' u x hu _ => hu, fun W u x hu => hu.elim, fun W u x u' y hu _ => hu.elim, fun o W n _ hn => absurd hn (by omega)⟩

set_option maxRecDepth 100000 in
set_option maxHeartbeats 16000000 in
theorem back_any (s : ByteArray) (p : Int) (A2 : Option Addr) (n2 c2 : Nat) (A3 : Option Addr) (c3 : Nat) (l03 : List S58) (n : Int) (Al : Option Addr) (cl : Nat) (cs : List S66) (w : World)
    (hC : Kd.C k58 w A3 l03.length l03) (hf : fewB l03 = true) (hn : n ≤ 30) (hCs : Kd.C k66 w Al cs.length cs) (hcl : cs.length ≤ cl) (hcf : cs.length ≤ 1000) (hWs : ∀ c ∈ cs, inW c.f0 = true ∧ inW c.f1 = true) :
    Calls Try.prog 16 #[bodyV s p A2 n2 c2 A3 l03.length c3, .int .i64 n, .slice Al cs.length cl] w fun e w' => ∃ v, e = .returned v ∧ N3 w' w.heap.size v (backL (bksOf l03) n.toNat (chsOf cs)) ∧ Below w.heap.size w w' := by
  obtain ⟨N, hN⟩ : ∃ N : Nat, n.toNat = N := ⟨_, rfl⟩
  have HC := Lib.hid hC
  have HCs := Lib.hid hCs
  have HWs := Lib.hid hWs
  clear hC hCs hWs
  go_enter Try.func16, Try.ntmps16
  go_wp2_with fail
  have hwW : Below w.heap.size w (w.alloc (.cells (bodyC s p A2 n2 c2 A3 l03.length c3) 25)) := below_alloc (Below.refl _ _) _
  have hwlt : w.heap.size < (w.alloc (.cells (bodyC s p A2 n2 c2 A3 l03.length c3) 25)).heap.size := by rw [World.size_alloc]; omega
  have hbx : BoxIs (w.alloc (.cells (bodyC s p A2 n2 c2 A3 l03.length c3) 25)) w.heap.size (bodyC s p A2 n2 c2 A3 l03.length c3) 25 := heap_alloc_new w _
  generalize w.alloc (.cells (bodyC s p A2 n2 c2 A3 l03.length c3) 25) = W at *
  have hbody : ∀ W', Below W.heap.size W W' → ∀ j v, (bodyC s p A2 n2 c2 A3 l03.length c3)[j]? = some v → W'.cell? ⟨w.heap.size, j, none⟩ = some v := fun W' hb j v hv => (hbx.below hb hbx.lt).cell j v hv
  rename_i K hK
  have HB_ : Hid (Below W.heap.size W W.drew) := Lib.hid (below_drew (Below.refl _ _))
  refine start_ (n := 9) (S := fun w' => w'.cell? ⟨w.heap.size, 0, none⟩ = some (.string s) ∧ w'.cell? ⟨w.heap.size, 1, none⟩ = some (.int .i64 p) ∧ w'.cell? ⟨w.heap.size, 2, none⟩ = some (.slice A2 n2 c2) ∧ w'.cell? ⟨w.heap.size, 3, none⟩ = some (.slice A3 l03.length c3)) (ds := [7, 8]) #[false, false, false, false, false, false, false, false, false] (by kernel_rfl) rfl rfl ⟨hbody _ (below_drew (Below.refl _ _)) 0 _ rfl, hbody _ (below_drew (Below.refl _ _)) 1 _ rfl, hbody _ (below_drew (Below.refl _ _)) 2 _ rfl, hbody _ (below_drew (Below.refl _ _)) 3 _ rfl⟩ (fun hHeld => ?_)
  refine pure_ (i := 0) (N := some 14) (v := ?_) (a' := ?_) #[true, false, false, false, false, false, false, false, false] rfl rfl (by kernel_rfl) (fun _ _ _ h => h) (Or.inl ⟨by rfl, ?_⟩) ?_ ?_
  rotate_left
  · intro w'
    go_simp
    with_reducible rfl
  rotate_left
  · simp only [Act.put, List.setIfInBounds_toArray, List.set_cons_zero, List.set_cons_succ, i64_w, i32_w]
    rfl
  refine pure_ (i := 1) (N := some 15) (v := ?_) (a' := ?_) #[true, true, false, false, false, false, false, false, false] rfl rfl (by kernel_rfl) (fun _ _ _ h => h) (Or.inl ⟨by rfl, ?_⟩) ?_ ?_
  rotate_left
  · intro w'
    go_simp
    with_reducible rfl
  rotate_left
  · simp only [Act.put, List.setIfInBounds_toArray, List.set_cons_zero, List.set_cons_succ, i64_w, i32_w]
    rfl
  refine take_ (i := 3) (N := some 17) (v := ?_) (a' := ?_) #[true, true, false, true, false, false, false, false, false] rfl rfl (by kernel_rfl) (fun _ _ _ h => h) (Or.inl ⟨by rfl, ?_⟩) hHeld ?_ ?_
  rotate_left
  · rintro w' ⟨s0, s1, s2, s3⟩
    go_simp
    with_reducible rfl
  rotate_left
  · simp only [Act.put, List.setIfInBounds_toArray, List.set_cons_zero, List.set_cons_succ, i64_w, i32_w]
    rfl
  refine join_ (σ := Nat × Option Addr × Nat × Nat × Nat) 2 #[true, true, true, true, true, true, true, false, false] (fun s_ => [(16, .agg #[.int .i64 (N : Int), .map (some s_.1)]), (18, .slice s_.2.1 l03.length s_.2.2.1), (7, .pointer (some ⟨s_.2.2.2.1, 0, none⟩)), (8, .pointer (some ⟨s_.2.2.2.2, 0, none⟩))]) (fun s_ w' => (w'.cell? ⟨w.heap.size, 0, none⟩ = some (.string s) ∧ w'.cell? ⟨w.heap.size, 1, none⟩ = some (.int .i64 p) ∧ w'.cell? ⟨w.heap.size, 2, none⟩ = some (.slice A2 n2 c2) ∧ w'.cell? ⟨w.heap.size, 3, none⟩ = some (.slice A3 l03.length c3)) ∧ (Below W.heap.size W w') ∧ (TabIs w w' w.heap.size s_.1 cs) ∧ (∃ vs, RR w' w.heap.size 3 42 (fun _ => True) (.slice s_.2.1 l03.length s_.2.2.1) vs (((List.range l03.length).map (predsL (bksOf l03))).map (encs (Value.int .i64)))) ∧ (BoxIs w' s_.2.2.2.1 #[.int .i64 0, .map none] 76 ∧ w.heap.size < s_.2.2.2.1) ∧ (BoxIs w' s_.2.2.2.2 #[.slice none 0 0] 39 ∧ w.heap.size < s_.2.2.2.2)) ?_ ?_
  rotate_left
  · intro hJ2_4_5_6
    refine join_ (σ := Nat × Option Addr × Nat × Nat) 3 #[true, true, true, true, true, true, false, false, false] (fun s_ => [(16, .agg #[.int .i64 (N : Int), .map (some s_.1)]), (18, .slice s_.2.1 l03.length s_.2.2.1), (7, .pointer (some ⟨s_.2.2.2, 0, none⟩))]) (fun s_ w' => (w'.cell? ⟨w.heap.size, 0, none⟩ = some (.string s) ∧ w'.cell? ⟨w.heap.size, 1, none⟩ = some (.int .i64 p) ∧ w'.cell? ⟨w.heap.size, 2, none⟩ = some (.slice A2 n2 c2) ∧ w'.cell? ⟨w.heap.size, 3, none⟩ = some (.slice A3 l03.length c3)) ∧ (Below W.heap.size W w') ∧ (TabIs w w' w.heap.size s_.1 cs) ∧ (∃ vs, RR w' w.heap.size 3 42 (fun _ => True) (.slice s_.2.1 l03.length s_.2.2.1) vs (((List.range l03.length).map (predsL (bksOf l03))).map (encs (Value.int .i64)))) ∧ (BoxIs w' s_.2.2.2 #[.int .i64 0, .map none] 76 ∧ w.heap.size < s_.2.2.2)) ?_ ?_
    rotate_left
    · intro hJ2_4_5
      refine join_ (σ := Nat × Option Addr × Nat × Nat) 3 #[true, true, true, true, true, false, true, false, false] (fun s_ => [(16, .agg #[.int .i64 (N : Int), .map (some s_.1)]), (18, .slice s_.2.1 l03.length s_.2.2.1), (8, .pointer (some ⟨s_.2.2.2, 0, none⟩))]) (fun s_ w' => (w'.cell? ⟨w.heap.size, 0, none⟩ = some (.string s) ∧ w'.cell? ⟨w.heap.size, 1, none⟩ = some (.int .i64 p) ∧ w'.cell? ⟨w.heap.size, 2, none⟩ = some (.slice A2 n2 c2) ∧ w'.cell? ⟨w.heap.size, 3, none⟩ = some (.slice A3 l03.length c3)) ∧ (Below W.heap.size W w') ∧ (TabIs w w' w.heap.size s_.1 cs) ∧ (∃ vs, RR w' w.heap.size 3 42 (fun _ => True) (.slice s_.2.1 l03.length s_.2.2.1) vs (((List.range l03.length).map (predsL (bksOf l03))).map (encs (Value.int .i64)))) ∧ (BoxIs w' s_.2.2.2 #[.slice none 0 0] 39 ∧ w.heap.size < s_.2.2.2)) ?_ ?_
      rotate_left
      · intro hJ2_4_6
        refine join_ (σ := Nat × Nat × Nat) 3 #[true, true, true, true, false, true, true, false, false] (fun s_ => [(16, .agg #[.int .i64 (N : Int), .map (some s_.1)]), (7, .pointer (some ⟨s_.2.1, 0, none⟩)), (8, .pointer (some ⟨s_.2.2, 0, none⟩))]) (fun s_ w' => (w'.cell? ⟨w.heap.size, 0, none⟩ = some (.string s) ∧ w'.cell? ⟨w.heap.size, 1, none⟩ = some (.int .i64 p) ∧ w'.cell? ⟨w.heap.size, 2, none⟩ = some (.slice A2 n2 c2) ∧ w'.cell? ⟨w.heap.size, 3, none⟩ = some (.slice A3 l03.length c3)) ∧ (Below W.heap.size W w') ∧ (TabIs w w' w.heap.size s_.1 cs) ∧ (BoxIs w' s_.2.1 #[.int .i64 0, .map none] 76 ∧ w.heap.size < s_.2.1) ∧ (BoxIs w' s_.2.2 #[.slice none 0 0] 39 ∧ w.heap.size < s_.2.2)) ?_ ?_
        rotate_left
        · intro hJ2_5_6
          refine join_ (σ := Nat × Option Addr × Nat) 4 #[true, true, true, true, true, false, false, false, false] (fun s_ => [(16, .agg #[.int .i64 (N : Int), .map (some s_.1)]), (18, .slice s_.2.1 l03.length s_.2.2)]) (fun s_ w' => (w'.cell? ⟨w.heap.size, 0, none⟩ = some (.string s) ∧ w'.cell? ⟨w.heap.size, 1, none⟩ = some (.int .i64 p) ∧ w'.cell? ⟨w.heap.size, 2, none⟩ = some (.slice A2 n2 c2) ∧ w'.cell? ⟨w.heap.size, 3, none⟩ = some (.slice A3 l03.length c3)) ∧ (Below W.heap.size W w') ∧ (TabIs w w' w.heap.size s_.1 cs) ∧ (∃ vs, RR w' w.heap.size 3 42 (fun _ => True) (.slice s_.2.1 l03.length s_.2.2) vs (((List.range l03.length).map (predsL (bksOf l03))).map (encs (Value.int .i64))))) ?_ ?_
          rotate_left
          · intro hJ2_4
            refine join_ (σ := Nat × Nat) 4 #[true, true, true, true, false, true, false, false, false] (fun s_ => [(16, .agg #[.int .i64 (N : Int), .map (some s_.1)]), (7, .pointer (some ⟨s_.2, 0, none⟩))]) (fun s_ w' => (w'.cell? ⟨w.heap.size, 0, none⟩ = some (.string s) ∧ w'.cell? ⟨w.heap.size, 1, none⟩ = some (.int .i64 p) ∧ w'.cell? ⟨w.heap.size, 2, none⟩ = some (.slice A2 n2 c2) ∧ w'.cell? ⟨w.heap.size, 3, none⟩ = some (.slice A3 l03.length c3)) ∧ (Below W.heap.size W w') ∧ (TabIs w w' w.heap.size s_.1 cs) ∧ (BoxIs w' s_.2 #[.int .i64 0, .map none] 76 ∧ w.heap.size < s_.2)) ?_ ?_
            rotate_left
            · intro hJ2_5
              refine join_ (σ := Nat × Nat) 4 #[true, true, true, true, false, false, true, false, false] (fun s_ => [(16, .agg #[.int .i64 (N : Int), .map (some s_.1)]), (8, .pointer (some ⟨s_.2, 0, none⟩))]) (fun s_ w' => (w'.cell? ⟨w.heap.size, 0, none⟩ = some (.string s) ∧ w'.cell? ⟨w.heap.size, 1, none⟩ = some (.int .i64 p) ∧ w'.cell? ⟨w.heap.size, 2, none⟩ = some (.slice A2 n2 c2) ∧ w'.cell? ⟨w.heap.size, 3, none⟩ = some (.slice A3 l03.length c3)) ∧ (Below W.heap.size W w') ∧ (TabIs w w' w.heap.size s_.1 cs) ∧ (BoxIs w' s_.2 #[.slice none 0 0] 39 ∧ w.heap.size < s_.2)) ?_ ?_
              rotate_left
              · intro hJ2_6
                refine join_ (σ := Nat × Nat) 4 #[true, true, false, true, false, true, true, false, false] (fun s_ => [(7, .pointer (some ⟨s_.1, 0, none⟩)), (8, .pointer (some ⟨s_.2, 0, none⟩))]) (fun s_ w' => (w'.cell? ⟨w.heap.size, 0, none⟩ = some (.string s) ∧ w'.cell? ⟨w.heap.size, 1, none⟩ = some (.int .i64 p) ∧ w'.cell? ⟨w.heap.size, 2, none⟩ = some (.slice A2 n2 c2) ∧ w'.cell? ⟨w.heap.size, 3, none⟩ = some (.slice A3 l03.length c3)) ∧ (Below W.heap.size W w') ∧ (BoxIs w' s_.1 #[.int .i64 0, .map none] 76 ∧ w.heap.size < s_.1) ∧ (BoxIs w' s_.2 #[.slice none 0 0] 39 ∧ w.heap.size < s_.2)) ?_ ?_
                rotate_left
                · intro hJ5_6
                  refine join_ (σ := Nat) 5 #[true, true, true, true, false, false, false, false, false] (fun s_ => [(16, .agg #[.int .i64 (N : Int), .map (some s_)])]) (fun s_ w' => (w'.cell? ⟨w.heap.size, 0, none⟩ = some (.string s) ∧ w'.cell? ⟨w.heap.size, 1, none⟩ = some (.int .i64 p) ∧ w'.cell? ⟨w.heap.size, 2, none⟩ = some (.slice A2 n2 c2) ∧ w'.cell? ⟨w.heap.size, 3, none⟩ = some (.slice A3 l03.length c3)) ∧ (Below W.heap.size W w') ∧ (TabIs w w' w.heap.size s_ cs)) ?_ ?_
                  rotate_left
                  · intro hJ2
                    refine join_ (σ := Nat) 5 #[true, true, false, true, false, true, false, false, false] (fun s_ => [(7, .pointer (some ⟨s_, 0, none⟩))]) (fun s_ w' => (w'.cell? ⟨w.heap.size, 0, none⟩ = some (.string s) ∧ w'.cell? ⟨w.heap.size, 1, none⟩ = some (.int .i64 p) ∧ w'.cell? ⟨w.heap.size, 2, none⟩ = some (.slice A2 n2 c2) ∧ w'.cell? ⟨w.heap.size, 3, none⟩ = some (.slice A3 l03.length c3)) ∧ (Below W.heap.size W w') ∧ (BoxIs w' s_ #[.int .i64 0, .map none] 76 ∧ w.heap.size < s_)) ?_ ?_
                    rotate_left
                    · intro hJ5
                      refine join_ (σ := Nat) 5 #[true, true, false, true, false, false, true, false, false] (fun s_ => [(8, .pointer (some ⟨s_, 0, none⟩))]) (fun s_ w' => (w'.cell? ⟨w.heap.size, 0, none⟩ = some (.string s) ∧ w'.cell? ⟨w.heap.size, 1, none⟩ = some (.int .i64 p) ∧ w'.cell? ⟨w.heap.size, 2, none⟩ = some (.slice A2 n2 c2) ∧ w'.cell? ⟨w.heap.size, 3, none⟩ = some (.slice A3 l03.length c3)) ∧ (Below W.heap.size W w') ∧ (BoxIs w' s_ #[.slice none 0 0] 39 ∧ w.heap.size < s_)) ?_ ?_
                      rotate_left
                      · intro hJ6
                        refine three_ (i := 2) (j := 5) (k := 6) (Ni := some 16) (Nj := some 7) (Nk := some 8) #[true, true, true, true, false, false, false, false, false] #[true, true, false, true, false, true, false, false, false] #[true, true, false, true, false, false, true, false, false] rfl rfl rfl rfl rfl rfl (by kernel_rfl) (by decide) (by decide) (by decide) (fun K hK => ?_) (fun K hK => ?_) (fun K hK => ?_)
                        · skip
                          refine goes_ Try.func27 (by kernel_rfl) rfl #[.int .i64 n, .slice Al cs.length cl] (by rfl) rfl rfl (by simp only [List.map_toArray, List.map_cons, List.map_nil]; rfl) ?_
                          with_reducible refine (newTable_n w _ (hwW.trans (HB_.out.mono hwW.size)) n N hN (by omega) Al cl cs HCs.out hcf HWs.out).mono ?_
                          rintro e w3 ⟨mbx, rfl, hmb, htab, hb⟩
                          refine ⟨_, rfl, ?_⟩
                          refine hK.out _ _ ⟨hbody _ (below_then HB_.out HB_.out.size hb) 0 _ rfl, hbody _ (below_then HB_.out HB_.out.size hb) 1 _ rfl, hbody _ (below_then HB_.out HB_.out.size hb) 2 _ rfl, hbody _ (below_then HB_.out HB_.out.size hb) 3 _ rfl⟩ (fun hHeld => ?_)
                          clear hK K
                          refine norm_ (a' := ?_) ?_ ?_
                          rotate_left
                          · show Act.put _ (some 16) _ = _
                            simp only [Act.put, List.setIfInBounds_toArray, List.set_cons_zero, List.set_cons_succ, i64_w, i32_w]
                            rfl
                          exact norm_ (by first | (simp only [Go.Proofs.YthgnbeeobhfeaaaW.PrintLast.putAll, Act.put, List.setIfInBounds_toArray, List.set_cons_zero, List.set_cons_succ]; done) | (simp only [Go.Proofs.YthgnbeeobhfeaaaW.PrintLast.putAll, Act.put, List.setIfInBounds_toArray, List.set_cons_zero, List.set_cons_succ]; rfl)) (hJ2 (mbx) _ ⟨hHeld, below_then HB_.out HB_.out.size hb, htab.weaken (Nat.le_trans hwW.size HB_.out.size)⟩)
                        · skip
                          refine value_ (w1 := ?_) (v := ?_) (by rfl) rfl ?_ ?_
                          rotate_left 2
                          · go_simp
                            constructor
                            · rfl
                            · rfl
                          have hb := below_alloc (Below.refl W.drew.heap.size W.drew) (Obj.cells (#[.int .i64 0, .map none] : Array Value) 76)
                          refine hK.out _ _ ⟨hbody _ (below_then HB_.out HB_.out.size hb) 0 _ rfl, hbody _ (below_then HB_.out HB_.out.size hb) 1 _ rfl, hbody _ (below_then HB_.out HB_.out.size hb) 2 _ rfl, hbody _ (below_then HB_.out HB_.out.size hb) 3 _ rfl⟩ (fun hHeld => ?_)
                          clear hK K
                          refine norm_ (a' := ?_) ?_ ?_
                          rotate_left
                          · show Act.put _ (some 7) _ = _
                            simp only [Act.put, List.setIfInBounds_toArray, List.set_cons_zero, List.set_cons_succ, i64_w, i32_w]
                            rfl
                          exact norm_ (by first | (simp only [Go.Proofs.YthgnbeeobhfeaaaW.PrintLast.putAll, Act.put, List.setIfInBounds_toArray, List.set_cons_zero, List.set_cons_succ]; done) | (simp only [Go.Proofs.YthgnbeeobhfeaaaW.PrintLast.putAll, Act.put, List.setIfInBounds_toArray, List.set_cons_zero, List.set_cons_succ]; rfl)) (hJ5 (W.drew.heap.size) _ ⟨hHeld, below_then HB_.out HB_.out.size hb, ⟨heap_alloc_new _ _, Nat.lt_of_lt_of_le hwlt HB_.out.size⟩⟩)
                        · skip
                          refine value_ (w1 := ?_) (v := ?_) (by rfl) rfl ?_ ?_
                          rotate_left 2
                          · go_simp
                            constructor
                            · rfl
                            · rfl
                          have hb := below_alloc (Below.refl W.drew.heap.size W.drew) (Obj.cells (#[.slice none 0 0] : Array Value) 39)
                          refine hK.out _ _ ⟨hbody _ (below_then HB_.out HB_.out.size hb) 0 _ rfl, hbody _ (below_then HB_.out HB_.out.size hb) 1 _ rfl, hbody _ (below_then HB_.out HB_.out.size hb) 2 _ rfl, hbody _ (below_then HB_.out HB_.out.size hb) 3 _ rfl⟩ (fun hHeld => ?_)
                          clear hK K
                          refine norm_ (a' := ?_) ?_ ?_
                          rotate_left
                          · show Act.put _ (some 8) _ = _
                            simp only [Act.put, List.setIfInBounds_toArray, List.set_cons_zero, List.set_cons_succ, i64_w, i32_w]
                            rfl
                          exact norm_ (by first | (simp only [Go.Proofs.YthgnbeeobhfeaaaW.PrintLast.putAll, Act.put, List.setIfInBounds_toArray, List.set_cons_zero, List.set_cons_succ]; done) | (simp only [Go.Proofs.YthgnbeeobhfeaaaW.PrintLast.putAll, Act.put, List.setIfInBounds_toArray, List.set_cons_zero, List.set_cons_succ]; rfl)) (hJ6 (W.drew.heap.size) _ ⟨hHeld, below_then HB_.out HB_.out.size hb, ⟨heap_alloc_new _ _, Nat.lt_of_lt_of_le hwlt HB_.out.size⟩⟩)
                      · skip
                        rintro gp wz ⟨hS_, h0_, h1_⟩
                        clear HB_
                        have HB_ : Hid (Below W.heap.size W wz) := Lib.hid h0_
                        have Hgp : Hid (BoxIs wz gp #[.slice none 0 0] 39 ∧ w.heap.size < gp) := Lib.hid h1_
                        clear h0_ h1_
                        have hHeld : wz.cell? ⟨w.heap.size, 0, none⟩ = some (.string s) ∧ wz.cell? ⟨w.heap.size, 1, none⟩ = some (.int .i64 p) ∧ wz.cell? ⟨w.heap.size, 2, none⟩ = some (.slice A2 n2 c2) ∧ wz.cell? ⟨w.heap.size, 3, none⟩ = some (.slice A3 l03.length c3) := hS_
                        refine norm_ (a' := ?_) ?_ ?_
                        rotate_left
                        · simp only [Go.Proofs.YthgnbeeobhfeaaaW.PrintLast.putAll, Act.put, List.setIfInBounds_toArray, List.set_cons_zero, List.set_cons_succ]
                          rfl
                        refine two_ (i := 2) (j := 5) (Ni := some 16) (Nj := some 7) #[true, true, true, true, false, false, true, false, false] #[true, true, false, true, false, true, true, false, false] rfl rfl rfl rfl (by kernel_rfl) (by decide) (by decide) (fun K hK => ?_) (fun K hK => ?_)
                        · skip
                          refine goes_ Try.func27 (by kernel_rfl) rfl #[.int .i64 n, .slice Al cs.length cl] (by rfl) rfl rfl (by simp only [List.map_toArray, List.map_cons, List.map_nil]; rfl) ?_
                          with_reducible refine (newTable_n w _ (hwW.trans (HB_.out.mono hwW.size)) n N hN (by omega) Al cl cs HCs.out hcf HWs.out).mono ?_
                          rintro e w3 ⟨mbx, rfl, hmb, htab, hb⟩
                          refine ⟨_, rfl, ?_⟩
                          refine hK.out _ _ ⟨hbody _ (below_then HB_.out HB_.out.size hb) 0 _ rfl, hbody _ (below_then HB_.out HB_.out.size hb) 1 _ rfl, hbody _ (below_then HB_.out HB_.out.size hb) 2 _ rfl, hbody _ (below_then HB_.out HB_.out.size hb) 3 _ rfl⟩ (fun hHeld => ?_)
                          clear hK K
                          refine norm_ (a' := ?_) ?_ ?_
                          rotate_left
                          · show Act.put _ (some 16) _ = _
                            simp only [Act.put, List.setIfInBounds_toArray, List.set_cons_zero, List.set_cons_succ, i64_w, i32_w]
                            rfl
                          exact norm_ (by first | (simp only [Go.Proofs.YthgnbeeobhfeaaaW.PrintLast.putAll, Act.put, List.setIfInBounds_toArray, List.set_cons_zero, List.set_cons_succ]; done) | (simp only [Go.Proofs.YthgnbeeobhfeaaaW.PrintLast.putAll, Act.put, List.setIfInBounds_toArray, List.set_cons_zero, List.set_cons_succ]; rfl)) (hJ2_6 (mbx, gp) _ ⟨hHeld, below_then HB_.out HB_.out.size hb, htab.weaken (Nat.le_trans hwW.size HB_.out.size), ⟨Hgp.out.1.below hb Hgp.out.1.lt, Hgp.out.2⟩⟩)
                        · skip
                          refine value_ (w1 := ?_) (v := ?_) (by rfl) rfl ?_ ?_
                          rotate_left 2
                          · go_simp
                            constructor
                            · rfl
                            · rfl
                          have hb := below_alloc (Below.refl wz.heap.size wz) (Obj.cells (#[.int .i64 0, .map none] : Array Value) 76)
                          refine hK.out _ _ ⟨hbody _ (below_then HB_.out HB_.out.size hb) 0 _ rfl, hbody _ (below_then HB_.out HB_.out.size hb) 1 _ rfl, hbody _ (below_then HB_.out HB_.out.size hb) 2 _ rfl, hbody _ (below_then HB_.out HB_.out.size hb) 3 _ rfl⟩ (fun hHeld => ?_)
                          clear hK K
                          refine norm_ (a' := ?_) ?_ ?_
                          rotate_left
                          · show Act.put _ (some 7) _ = _
                            simp only [Act.put, List.setIfInBounds_toArray, List.set_cons_zero, List.set_cons_succ, i64_w, i32_w]
                            rfl
                          exact norm_ (by first | (simp only [Go.Proofs.YthgnbeeobhfeaaaW.PrintLast.putAll, Act.put, List.setIfInBounds_toArray, List.set_cons_zero, List.set_cons_succ]; done) | (simp only [Go.Proofs.YthgnbeeobhfeaaaW.PrintLast.putAll, Act.put, List.setIfInBounds_toArray, List.set_cons_zero, List.set_cons_succ]; rfl)) (hJ5_6 (wz.heap.size, gp) _ ⟨hHeld, below_then HB_.out HB_.out.size hb, ⟨heap_alloc_new _ _, Nat.lt_of_lt_of_le hwlt HB_.out.size⟩, ⟨Hgp.out.1.below hb Hgp.out.1.lt, Hgp.out.2⟩⟩)
                    · skip
                      rintro gt wz ⟨hS_, h0_, h1_⟩
                      clear HB_
                      have HB_ : Hid (Below W.heap.size W wz) := Lib.hid h0_
                      have Hgt : Hid (BoxIs wz gt #[.int .i64 0, .map none] 76 ∧ w.heap.size < gt) := Lib.hid h1_
                      clear h0_ h1_
                      have hHeld : wz.cell? ⟨w.heap.size, 0, none⟩ = some (.string s) ∧ wz.cell? ⟨w.heap.size, 1, none⟩ = some (.int .i64 p) ∧ wz.cell? ⟨w.heap.size, 2, none⟩ = some (.slice A2 n2 c2) ∧ wz.cell? ⟨w.heap.size, 3, none⟩ = some (.slice A3 l03.length c3) := hS_
                      refine norm_ (a' := ?_) ?_ ?_
                      rotate_left
                      · simp only [Go.Proofs.YthgnbeeobhfeaaaW.PrintLast.putAll, Act.put, List.setIfInBounds_toArray, List.set_cons_zero, List.set_cons_succ]
                        rfl
                      refine two_ (i := 2) (j := 6) (Ni := some 16) (Nj := some 8) #[true, true, true, true, false, true, false, false, false] #[true, true, false, true, false, true, true, false, false] rfl rfl rfl rfl (by kernel_rfl) (by decide) (by decide) (fun K hK => ?_) (fun K hK => ?_)
                      · skip
                        refine goes_ Try.func27 (by kernel_rfl) rfl #[.int .i64 n, .slice Al cs.length cl] (by rfl) rfl rfl (by simp only [List.map_toArray, List.map_cons, List.map_nil]; rfl) ?_
                        with_reducible refine (newTable_n w _ (hwW.trans (HB_.out.mono hwW.size)) n N hN (by omega) Al cl cs HCs.out hcf HWs.out).mono ?_
                        rintro e w3 ⟨mbx, rfl, hmb, htab, hb⟩
                        refine ⟨_, rfl, ?_⟩
                        refine hK.out _ _ ⟨hbody _ (below_then HB_.out HB_.out.size hb) 0 _ rfl, hbody _ (below_then HB_.out HB_.out.size hb) 1 _ rfl, hbody _ (below_then HB_.out HB_.out.size hb) 2 _ rfl, hbody _ (below_then HB_.out HB_.out.size hb) 3 _ rfl⟩ (fun hHeld => ?_)
                        clear hK K
                        refine norm_ (a' := ?_) ?_ ?_
                        rotate_left
                        · show Act.put _ (some 16) _ = _
                          simp only [Act.put, List.setIfInBounds_toArray, List.set_cons_zero, List.set_cons_succ, i64_w, i32_w]
                          rfl
                        exact norm_ (by first | (simp only [Go.Proofs.YthgnbeeobhfeaaaW.PrintLast.putAll, Act.put, List.setIfInBounds_toArray, List.set_cons_zero, List.set_cons_succ]; done) | (simp only [Go.Proofs.YthgnbeeobhfeaaaW.PrintLast.putAll, Act.put, List.setIfInBounds_toArray, List.set_cons_zero, List.set_cons_succ]; rfl)) (hJ2_5 (mbx, gt) _ ⟨hHeld, below_then HB_.out HB_.out.size hb, htab.weaken (Nat.le_trans hwW.size HB_.out.size), ⟨Hgt.out.1.below hb Hgt.out.1.lt, Hgt.out.2⟩⟩)
                      · skip
                        refine value_ (w1 := ?_) (v := ?_) (by rfl) rfl ?_ ?_
                        rotate_left 2
                        · go_simp
                          constructor
                          · rfl
                          · rfl
                        have hb := below_alloc (Below.refl wz.heap.size wz) (Obj.cells (#[.slice none 0 0] : Array Value) 39)
                        refine hK.out _ _ ⟨hbody _ (below_then HB_.out HB_.out.size hb) 0 _ rfl, hbody _ (below_then HB_.out HB_.out.size hb) 1 _ rfl, hbody _ (below_then HB_.out HB_.out.size hb) 2 _ rfl, hbody _ (below_then HB_.out HB_.out.size hb) 3 _ rfl⟩ (fun hHeld => ?_)
                        clear hK K
                        refine norm_ (a' := ?_) ?_ ?_
                        rotate_left
                        · show Act.put _ (some 8) _ = _
                          simp only [Act.put, List.setIfInBounds_toArray, List.set_cons_zero, List.set_cons_succ, i64_w, i32_w]
                          rfl
                        exact norm_ (by first | (simp only [Go.Proofs.YthgnbeeobhfeaaaW.PrintLast.putAll, Act.put, List.setIfInBounds_toArray, List.set_cons_zero, List.set_cons_succ]; done) | (simp only [Go.Proofs.YthgnbeeobhfeaaaW.PrintLast.putAll, Act.put, List.setIfInBounds_toArray, List.set_cons_zero, List.set_cons_succ]; rfl)) (hJ5_6 (gt, wz.heap.size) _ ⟨hHeld, below_then HB_.out HB_.out.size hb, ⟨Hgt.out.1.below hb Hgt.out.1.lt, Hgt.out.2⟩, ⟨heap_alloc_new _ _, Nat.lt_of_lt_of_le hwlt HB_.out.size⟩⟩)
                  · skip
                    rintro mb wz ⟨hS_, h0_, h1_⟩
                    clear HB_
                    have HB_ : Hid (Below W.heap.size W wz) := Lib.hid h0_
                    have HT : Hid (TabIs w wz w.heap.size mb cs) := Lib.hid h1_
                    clear h0_ h1_
                    have hHeld : wz.cell? ⟨w.heap.size, 0, none⟩ = some (.string s) ∧ wz.cell? ⟨w.heap.size, 1, none⟩ = some (.int .i64 p) ∧ wz.cell? ⟨w.heap.size, 2, none⟩ = some (.slice A2 n2 c2) ∧ wz.cell? ⟨w.heap.size, 3, none⟩ = some (.slice A3 l03.length c3) := hS_
                    refine norm_ (a' := ?_) ?_ ?_
                    rotate_left
                    · simp only [Go.Proofs.YthgnbeeobhfeaaaW.PrintLast.putAll, Act.put, List.setIfInBounds_toArray, List.set_cons_zero, List.set_cons_succ]
                      rfl
                    refine three_ (i := 4) (j := 5) (k := 6) (Ni := some 18) (Nj := some 7) (Nk := some 8) #[true, true, true, true, true, false, false, false, false] #[true, true, true, true, false, true, false, false, false] #[true, true, true, true, false, false, true, false, false] rfl rfl rfl rfl rfl rfl (by kernel_rfl) (by decide) (by decide) (by decide) (fun K hK => ?_) (fun K hK => ?_) (fun K hK => ?_)
                    · skip
                      refine goes_ Try.func18 (by kernel_rfl) rfl #[bodyV s p A2 n2 c2 A3 l03.length c3] (by rfl) rfl rfl (by simp only [List.map_toArray, List.map_cons, List.map_nil]; rfl) ?_
                      with_reducible refine (preds_any s p A2 n2 c2 A3 c3 l03 _ (Kd.C_below HC.out (hwW.trans (HB_.out.mono hwW.size))) hf).mono ?_
                      rintro e w3 ⟨vpx, vsx, rfl, hrr, hb⟩
                      have hvl : vsx.length = l03.length := by rw [hrr.len]; simp
                      obtain ⟨Apx, cpx, hvx⟩ := own_slice hrr.own
                      rw [hvl] at hvx
                      subst hvx
                      refine ⟨_, rfl, ?_⟩
                      refine hK.out _ _ ⟨hbody _ (below_then HB_.out HB_.out.size hb) 0 _ rfl, hbody _ (below_then HB_.out HB_.out.size hb) 1 _ rfl, hbody _ (below_then HB_.out HB_.out.size hb) 2 _ rfl, hbody _ (below_then HB_.out HB_.out.size hb) 3 _ rfl⟩ (fun hHeld => ?_)
                      clear hK K
                      refine norm_ (a' := ?_) ?_ ?_
                      rotate_left
                      · show Act.put _ (some 18) _ = _
                        simp only [Act.put, List.setIfInBounds_toArray, List.set_cons_zero, List.set_cons_succ, i64_w, i32_w]
                        rfl
                      exact norm_ (by first | (simp only [Go.Proofs.YthgnbeeobhfeaaaW.PrintLast.putAll, Act.put, List.setIfInBounds_toArray, List.set_cons_zero, List.set_cons_succ]; done) | (simp only [Go.Proofs.YthgnbeeobhfeaaaW.PrintLast.putAll, Act.put, List.setIfInBounds_toArray, List.set_cons_zero, List.set_cons_succ]; rfl)) (hJ2_4 (mb, Apx, cpx) _ ⟨hHeld, below_then HB_.out HB_.out.size hb, HT.out.below hb, ⟨vsx, (hrr.mono (fun _ _ => trivial)).weaken (Nat.le_trans hwW.size HB_.out.size)⟩⟩)
                    · skip
                      refine value_ (w1 := ?_) (v := ?_) (by rfl) rfl ?_ ?_
                      rotate_left 2
                      · go_simp
                        constructor
                        · rfl
                        · rfl
                      have hb := below_alloc (Below.refl wz.heap.size wz) (Obj.cells (#[.int .i64 0, .map none] : Array Value) 76)
                      refine hK.out _ _ ⟨hbody _ (below_then HB_.out HB_.out.size hb) 0 _ rfl, hbody _ (below_then HB_.out HB_.out.size hb) 1 _ rfl, hbody _ (below_then HB_.out HB_.out.size hb) 2 _ rfl, hbody _ (below_then HB_.out HB_.out.size hb) 3 _ rfl⟩ (fun hHeld => ?_)
                      clear hK K
                      refine norm_ (a' := ?_) ?_ ?_
                      rotate_left
                      · show Act.put _ (some 7) _ = _
                        simp only [Act.put, List.setIfInBounds_toArray, List.set_cons_zero, List.set_cons_succ, i64_w, i32_w]
                        rfl
                      exact norm_ (by first | (simp only [Go.Proofs.YthgnbeeobhfeaaaW.PrintLast.putAll, Act.put, List.setIfInBounds_toArray, List.set_cons_zero, List.set_cons_succ]; done) | (simp only [Go.Proofs.YthgnbeeobhfeaaaW.PrintLast.putAll, Act.put, List.setIfInBounds_toArray, List.set_cons_zero, List.set_cons_succ]; rfl)) (hJ2_5 (mb, wz.heap.size) _ ⟨hHeld, below_then HB_.out HB_.out.size hb, HT.out.below hb, ⟨heap_alloc_new _ _, Nat.lt_of_lt_of_le hwlt HB_.out.size⟩⟩)
                    · skip
                      refine value_ (w1 := ?_) (v := ?_) (by rfl) rfl ?_ ?_
                      rotate_left 2
                      · go_simp
                        constructor
                        · rfl
                        · rfl
                      have hb := below_alloc (Below.refl wz.heap.size wz) (Obj.cells (#[.slice none 0 0] : Array Value) 39)
                      refine hK.out _ _ ⟨hbody _ (below_then HB_.out HB_.out.size hb) 0 _ rfl, hbody _ (below_then HB_.out HB_.out.size hb) 1 _ rfl, hbody _ (below_then HB_.out HB_.out.size hb) 2 _ rfl, hbody _ (below_then HB_.out HB_.out.size hb) 3 _ rfl⟩ (fun hHeld => ?_)
                      clear hK K
                      refine norm_ (a' := ?_) ?_ ?_
                      rotate_left
                      · show Act.put _ (some 8) _ = _
                        simp only [Act.put, List.setIfInBounds_toArray, List.set_cons_zero, List.set_cons_succ, i64_w, i32_w]
                        rfl
                      exact norm_ (by first | (simp only [Go.Proofs.YthgnbeeobhfeaaaW.PrintLast.putAll, Act.put, List.setIfInBounds_toArray, List.set_cons_zero, List.set_cons_succ]; done) | (simp only [Go.Proofs.YthgnbeeobhfeaaaW.PrintLast.putAll, Act.put, List.setIfInBounds_toArray, List.set_cons_zero, List.set_cons_succ]; rfl)) (hJ2_6 (mb, wz.heap.size) _ ⟨hHeld, below_then HB_.out HB_.out.size hb, HT.out.below hb, ⟨heap_alloc_new _ _, Nat.lt_of_lt_of_le hwlt HB_.out.size⟩⟩)
                · skip
                  rintro ⟨gt, gp⟩ wz ⟨hS_, h0_, h1_, h2_⟩
                  clear HB_
                  have HB_ : Hid (Below W.heap.size W wz) := Lib.hid h0_
                  have Hgt : Hid (BoxIs wz gt #[.int .i64 0, .map none] 76 ∧ w.heap.size < gt) := Lib.hid h1_
                  have Hgp : Hid (BoxIs wz gp #[.slice none 0 0] 39 ∧ w.heap.size < gp) := Lib.hid h2_
                  clear h0_ h1_ h2_
                  have hHeld : wz.cell? ⟨w.heap.size, 0, none⟩ = some (.string s) ∧ wz.cell? ⟨w.heap.size, 1, none⟩ = some (.int .i64 p) ∧ wz.cell? ⟨w.heap.size, 2, none⟩ = some (.slice A2 n2 c2) ∧ wz.cell? ⟨w.heap.size, 3, none⟩ = some (.slice A3 l03.length c3) := hS_
                  refine norm_ (a' := ?_) ?_ ?_
                  rotate_left
                  · simp only [Go.Proofs.YthgnbeeobhfeaaaW.PrintLast.putAll, Act.put, List.setIfInBounds_toArray, List.set_cons_zero, List.set_cons_succ]
                    rfl
                  refine one_ (i := 2) (N := some 16) #[true, true, true, true, false, true, true, false, false] rfl rfl (by kernel_rfl) (by decide) (fun K hK => ?_)
                  refine goes_ Try.func27 (by kernel_rfl) rfl #[.int .i64 n, .slice Al cs.length cl] (by rfl) rfl rfl (by simp only [List.map_toArray, List.map_cons, List.map_nil]; rfl) ?_
                  with_reducible refine (newTable_n w _ (hwW.trans (HB_.out.mono hwW.size)) n N hN (by omega) Al cl cs HCs.out hcf HWs.out).mono ?_
                  rintro e w3 ⟨mbx, rfl, hmb, htab, hb⟩
                  refine ⟨_, rfl, ?_⟩
                  refine hK.out _ _ ⟨hbody _ (below_then HB_.out HB_.out.size hb) 0 _ rfl, hbody _ (below_then HB_.out HB_.out.size hb) 1 _ rfl, hbody _ (below_then HB_.out HB_.out.size hb) 2 _ rfl, hbody _ (below_then HB_.out HB_.out.size hb) 3 _ rfl⟩ (fun hHeld => ?_)
                  clear hK K
                  refine norm_ (a' := ?_) ?_ ?_
                  rotate_left
                  · show Act.put _ (some 16) _ = _
                    simp only [Act.put, List.setIfInBounds_toArray, List.set_cons_zero, List.set_cons_succ, i64_w, i32_w]
                    rfl
                  exact norm_ (by first | (simp only [Go.Proofs.YthgnbeeobhfeaaaW.PrintLast.putAll, Act.put, List.setIfInBounds_toArray, List.set_cons_zero, List.set_cons_succ]; done) | (simp only [Go.Proofs.YthgnbeeobhfeaaaW.PrintLast.putAll, Act.put, List.setIfInBounds_toArray, List.set_cons_zero, List.set_cons_succ]; rfl)) (hJ2_5_6 (mbx, gt, gp) _ ⟨hHeld, below_then HB_.out HB_.out.size hb, htab.weaken (Nat.le_trans hwW.size HB_.out.size), ⟨Hgt.out.1.below hb Hgt.out.1.lt, Hgt.out.2⟩, ⟨Hgp.out.1.below hb Hgp.out.1.lt, Hgp.out.2⟩⟩)
              · skip
                rintro ⟨mb, gp⟩ wz ⟨hS_, h0_, h1_, h2_⟩
                clear HB_
                have HB_ : Hid (Below W.heap.size W wz) := Lib.hid h0_
                have HT : Hid (TabIs w wz w.heap.size mb cs) := Lib.hid h1_
                have Hgp : Hid (BoxIs wz gp #[.slice none 0 0] 39 ∧ w.heap.size < gp) := Lib.hid h2_
                clear h0_ h1_ h2_
                have hHeld : wz.cell? ⟨w.heap.size, 0, none⟩ = some (.string s) ∧ wz.cell? ⟨w.heap.size, 1, none⟩ = some (.int .i64 p) ∧ wz.cell? ⟨w.heap.size, 2, none⟩ = some (.slice A2 n2 c2) ∧ wz.cell? ⟨w.heap.size, 3, none⟩ = some (.slice A3 l03.length c3) := hS_
                refine norm_ (a' := ?_) ?_ ?_
                rotate_left
                · simp only [Go.Proofs.YthgnbeeobhfeaaaW.PrintLast.putAll, Act.put, List.setIfInBounds_toArray, List.set_cons_zero, List.set_cons_succ]
                  rfl
                refine two_ (i := 4) (j := 5) (Ni := some 18) (Nj := some 7) #[true, true, true, true, true, false, true, false, false] #[true, true, true, true, false, true, true, false, false] rfl rfl rfl rfl (by kernel_rfl) (by decide) (by decide) (fun K hK => ?_) (fun K hK => ?_)
                · skip
                  refine goes_ Try.func18 (by kernel_rfl) rfl #[bodyV s p A2 n2 c2 A3 l03.length c3] (by rfl) rfl rfl (by simp only [List.map_toArray, List.map_cons, List.map_nil]; rfl) ?_
                  with_reducible refine (preds_any s p A2 n2 c2 A3 c3 l03 _ (Kd.C_below HC.out (hwW.trans (HB_.out.mono hwW.size))) hf).mono ?_
                  rintro e w3 ⟨vpx, vsx, rfl, hrr, hb⟩
                  have hvl : vsx.length = l03.length := by rw [hrr.len]; simp
                  obtain ⟨Apx, cpx, hvx⟩ := own_slice hrr.own
                  rw [hvl] at hvx
                  subst hvx
                  refine ⟨_, rfl, ?_⟩
                  refine hK.out _ _ ⟨hbody _ (below_then HB_.out HB_.out.size hb) 0 _ rfl, hbody _ (below_then HB_.out HB_.out.size hb) 1 _ rfl, hbody _ (below_then HB_.out HB_.out.size hb) 2 _ rfl, hbody _ (below_then HB_.out HB_.out.size hb) 3 _ rfl⟩ (fun hHeld => ?_)
                  clear hK K
                  refine norm_ (a' := ?_) ?_ ?_
                  rotate_left
                  · show Act.put _ (some 18) _ = _
                    simp only [Act.put, List.setIfInBounds_toArray, List.set_cons_zero, List.set_cons_succ, i64_w, i32_w]
                    rfl
                  exact norm_ (by first | (simp only [Go.Proofs.YthgnbeeobhfeaaaW.PrintLast.putAll, Act.put, List.setIfInBounds_toArray, List.set_cons_zero, List.set_cons_succ]; done) | (simp only [Go.Proofs.YthgnbeeobhfeaaaW.PrintLast.putAll, Act.put, List.setIfInBounds_toArray, List.set_cons_zero, List.set_cons_succ]; rfl)) (hJ2_4_6 (mb, Apx, cpx, gp) _ ⟨hHeld, below_then HB_.out HB_.out.size hb, HT.out.below hb, ⟨vsx, (hrr.mono (fun _ _ => trivial)).weaken (Nat.le_trans hwW.size HB_.out.size)⟩, ⟨Hgp.out.1.below hb Hgp.out.1.lt, Hgp.out.2⟩⟩)
                · skip
                  refine value_ (w1 := ?_) (v := ?_) (by rfl) rfl ?_ ?_
                  rotate_left 2
                  · go_simp
                    constructor
                    · rfl
                    · rfl
                  have hb := below_alloc (Below.refl wz.heap.size wz) (Obj.cells (#[.int .i64 0, .map none] : Array Value) 76)
                  refine hK.out _ _ ⟨hbody _ (below_then HB_.out HB_.out.size hb) 0 _ rfl, hbody _ (below_then HB_.out HB_.out.size hb) 1 _ rfl, hbody _ (below_then HB_.out HB_.out.size hb) 2 _ rfl, hbody _ (below_then HB_.out HB_.out.size hb) 3 _ rfl⟩ (fun hHeld => ?_)
                  clear hK K
                  refine norm_ (a' := ?_) ?_ ?_
                  rotate_left
                  · show Act.put _ (some 7) _ = _
                    simp only [Act.put, List.setIfInBounds_toArray, List.set_cons_zero, List.set_cons_succ, i64_w, i32_w]
                    rfl
                  exact norm_ (by first | (simp only [Go.Proofs.YthgnbeeobhfeaaaW.PrintLast.putAll, Act.put, List.setIfInBounds_toArray, List.set_cons_zero, List.set_cons_succ]; done) | (simp only [Go.Proofs.YthgnbeeobhfeaaaW.PrintLast.putAll, Act.put, List.setIfInBounds_toArray, List.set_cons_zero, List.set_cons_succ]; rfl)) (hJ2_5_6 (mb, wz.heap.size, gp) _ ⟨hHeld, below_then HB_.out HB_.out.size hb, HT.out.below hb, ⟨heap_alloc_new _ _, Nat.lt_of_lt_of_le hwlt HB_.out.size⟩, ⟨Hgp.out.1.below hb Hgp.out.1.lt, Hgp.out.2⟩⟩)
            · skip
              rintro ⟨mb, gt⟩ wz ⟨hS_, h0_, h1_, h2_⟩
              clear HB_
              have HB_ : Hid (Below W.heap.size W wz) := Lib.hid h0_
              have HT : Hid (TabIs w wz w.heap.size mb cs) := Lib.hid h1_
              have Hgt : Hid (BoxIs wz gt #[.int .i64 0, .map none] 76 ∧ w.heap.size < gt) := Lib.hid h2_
              clear h0_ h1_ h2_
              have hHeld : wz.cell? ⟨w.heap.size, 0, none⟩ = some (.string s) ∧ wz.cell? ⟨w.heap.size, 1, none⟩ = some (.int .i64 p) ∧ wz.cell? ⟨w.heap.size, 2, none⟩ = some (.slice A2 n2 c2) ∧ wz.cell? ⟨w.heap.size, 3, none⟩ = some (.slice A3 l03.length c3) := hS_
              refine norm_ (a' := ?_) ?_ ?_
              rotate_left
              · simp only [Go.Proofs.YthgnbeeobhfeaaaW.PrintLast.putAll, Act.put, List.setIfInBounds_toArray, List.set_cons_zero, List.set_cons_succ]
                rfl
              refine two_ (i := 4) (j := 6) (Ni := some 18) (Nj := some 8) #[true, true, true, true, true, true, false, false, false] #[true, true, true, true, false, true, true, false, false] rfl rfl rfl rfl (by kernel_rfl) (by decide) (by decide) (fun K hK => ?_) (fun K hK => ?_)
              · skip
                refine goes_ Try.func18 (by kernel_rfl) rfl #[bodyV s p A2 n2 c2 A3 l03.length c3] (by rfl) rfl rfl (by simp only [List.map_toArray, List.map_cons, List.map_nil]; rfl) ?_
                with_reducible refine (preds_any s p A2 n2 c2 A3 c3 l03 _ (Kd.C_below HC.out (hwW.trans (HB_.out.mono hwW.size))) hf).mono ?_
                rintro e w3 ⟨vpx, vsx, rfl, hrr, hb⟩
                have hvl : vsx.length = l03.length := by rw [hrr.len]; simp
                obtain ⟨Apx, cpx, hvx⟩ := own_slice hrr.own
                rw [hvl] at hvx
                subst hvx
                refine ⟨_, rfl, ?_⟩
                refine hK.out _ _ ⟨hbody _ (below_then HB_.out HB_.out.size hb) 0 _ rfl, hbody _ (below_then HB_.out HB_.out.size hb) 1 _ rfl, hbody _ (below_then HB_.out HB_.out.size hb) 2 _ rfl, hbody _ (below_then HB_.out HB_.out.size hb) 3 _ rfl⟩ (fun hHeld => ?_)
                clear hK K
                refine norm_ (a' := ?_) ?_ ?_
                rotate_left
                · show Act.put _ (some 18) _ = _
                  simp only [Act.put, List.setIfInBounds_toArray, List.set_cons_zero, List.set_cons_succ, i64_w, i32_w]
                  rfl
                exact norm_ (by first | (simp only [Go.Proofs.YthgnbeeobhfeaaaW.PrintLast.putAll, Act.put, List.setIfInBounds_toArray, List.set_cons_zero, List.set_cons_succ]; done) | (simp only [Go.Proofs.YthgnbeeobhfeaaaW.PrintLast.putAll, Act.put, List.setIfInBounds_toArray, List.set_cons_zero, List.set_cons_succ]; rfl)) (hJ2_4_5 (mb, Apx, cpx, gt) _ ⟨hHeld, below_then HB_.out HB_.out.size hb, HT.out.below hb, ⟨vsx, (hrr.mono (fun _ _ => trivial)).weaken (Nat.le_trans hwW.size HB_.out.size)⟩, ⟨Hgt.out.1.below hb Hgt.out.1.lt, Hgt.out.2⟩⟩)
              · skip
                refine value_ (w1 := ?_) (v := ?_) (by rfl) rfl ?_ ?_
                rotate_left 2
                · go_simp
                  constructor
                  · rfl
                  · rfl
                have hb := below_alloc (Below.refl wz.heap.size wz) (Obj.cells (#[.slice none 0 0] : Array Value) 39)
                refine hK.out _ _ ⟨hbody _ (below_then HB_.out HB_.out.size hb) 0 _ rfl, hbody _ (below_then HB_.out HB_.out.size hb) 1 _ rfl, hbody _ (below_then HB_.out HB_.out.size hb) 2 _ rfl, hbody _ (below_then HB_.out HB_.out.size hb) 3 _ rfl⟩ (fun hHeld => ?_)
                clear hK K
                refine norm_ (a' := ?_) ?_ ?_
                rotate_left
                · show Act.put _ (some 8) _ = _
                  simp only [Act.put, List.setIfInBounds_toArray, List.set_cons_zero, List.set_cons_succ, i64_w, i32_w]
                  rfl
                exact norm_ (by first | (simp only [Go.Proofs.YthgnbeeobhfeaaaW.PrintLast.putAll, Act.put, List.setIfInBounds_toArray, List.set_cons_zero, List.set_cons_succ]; done) | (simp only [Go.Proofs.YthgnbeeobhfeaaaW.PrintLast.putAll, Act.put, List.setIfInBounds_toArray, List.set_cons_zero, List.set_cons_succ]; rfl)) (hJ2_5_6 (mb, gt, wz.heap.size) _ ⟨hHeld, below_then HB_.out HB_.out.size hb, HT.out.below hb, ⟨Hgt.out.1.below hb Hgt.out.1.lt, Hgt.out.2⟩, ⟨heap_alloc_new _ _, Nat.lt_of_lt_of_le hwlt HB_.out.size⟩⟩)
          · skip
            rintro ⟨mb, Ap, cp⟩ wz ⟨hS_, h0_, h1_, h2_⟩
            clear HB_
            have HB_ : Hid (Below W.heap.size W wz) := Lib.hid h0_
            have HT : Hid (TabIs w wz w.heap.size mb cs) := Lib.hid h1_
            have HP : Hid (∃ vs, RR wz w.heap.size 3 42 (fun _ => True) (.slice Ap l03.length cp) vs (((List.range l03.length).map (predsL (bksOf l03))).map (encs (Value.int .i64)))) := Lib.hid h2_
            clear h0_ h1_ h2_
            have hHeld : wz.cell? ⟨w.heap.size, 0, none⟩ = some (.string s) ∧ wz.cell? ⟨w.heap.size, 1, none⟩ = some (.int .i64 p) ∧ wz.cell? ⟨w.heap.size, 2, none⟩ = some (.slice A2 n2 c2) ∧ wz.cell? ⟨w.heap.size, 3, none⟩ = some (.slice A3 l03.length c3) := hS_
            refine norm_ (a' := ?_) ?_ ?_
            rotate_left
            · simp only [Go.Proofs.YthgnbeeobhfeaaaW.PrintLast.putAll, Act.put, List.setIfInBounds_toArray, List.set_cons_zero, List.set_cons_succ]
              rfl
            refine two_ (i := 5) (j := 6) (Ni := some 7) (Nj := some 8) #[true, true, true, true, true, true, false, false, false] #[true, true, true, true, true, false, true, false, false] rfl rfl rfl rfl (by kernel_rfl) (by decide) (by decide) (fun K hK => ?_) (fun K hK => ?_)
            · skip
              refine value_ (w1 := ?_) (v := ?_) (by rfl) rfl ?_ ?_
              rotate_left 2
              · go_simp
                constructor
                · rfl
                · rfl
              have hb := below_alloc (Below.refl wz.heap.size wz) (Obj.cells (#[.int .i64 0, .map none] : Array Value) 76)
              refine hK.out _ _ ⟨hbody _ (below_then HB_.out HB_.out.size hb) 0 _ rfl, hbody _ (below_then HB_.out HB_.out.size hb) 1 _ rfl, hbody _ (below_then HB_.out HB_.out.size hb) 2 _ rfl, hbody _ (below_then HB_.out HB_.out.size hb) 3 _ rfl⟩ (fun hHeld => ?_)
              clear hK K
              refine norm_ (a' := ?_) ?_ ?_
              rotate_left
              · show Act.put _ (some 7) _ = _
                simp only [Act.put, List.setIfInBounds_toArray, List.set_cons_zero, List.set_cons_succ, i64_w, i32_w]
                rfl
              exact norm_ (by first | (simp only [Go.Proofs.YthgnbeeobhfeaaaW.PrintLast.putAll, Act.put, List.setIfInBounds_toArray, List.set_cons_zero, List.set_cons_succ]; done) | (simp only [Go.Proofs.YthgnbeeobhfeaaaW.PrintLast.putAll, Act.put, List.setIfInBounds_toArray, List.set_cons_zero, List.set_cons_succ]; rfl)) (hJ2_4_5 (mb, Ap, cp, wz.heap.size) _ ⟨hHeld, below_then HB_.out HB_.out.size hb, HT.out.below hb, (HP.out.elim fun vs h => ⟨vs, h.below hb⟩), ⟨heap_alloc_new _ _, Nat.lt_of_lt_of_le hwlt HB_.out.size⟩⟩)
            · skip
              refine value_ (w1 := ?_) (v := ?_) (by rfl) rfl ?_ ?_
              rotate_left 2
              · go_simp
                constructor
                · rfl
                · rfl
              have hb := below_alloc (Below.refl wz.heap.size wz) (Obj.cells (#[.slice none 0 0] : Array Value) 39)
              refine hK.out _ _ ⟨hbody _ (below_then HB_.out HB_.out.size hb) 0 _ rfl, hbody _ (below_then HB_.out HB_.out.size hb) 1 _ rfl, hbody _ (below_then HB_.out HB_.out.size hb) 2 _ rfl, hbody _ (below_then HB_.out HB_.out.size hb) 3 _ rfl⟩ (fun hHeld => ?_)
              clear hK K
              refine norm_ (a' := ?_) ?_ ?_
              rotate_left
              · show Act.put _ (some 8) _ = _
                simp only [Act.put, List.setIfInBounds_toArray, List.set_cons_zero, List.set_cons_succ, i64_w, i32_w]
                rfl
              exact norm_ (by first | (simp only [Go.Proofs.YthgnbeeobhfeaaaW.PrintLast.putAll, Act.put, List.setIfInBounds_toArray, List.set_cons_zero, List.set_cons_succ]; done) | (simp only [Go.Proofs.YthgnbeeobhfeaaaW.PrintLast.putAll, Act.put, List.setIfInBounds_toArray, List.set_cons_zero, List.set_cons_succ]; rfl)) (hJ2_4_6 (mb, Ap, cp, wz.heap.size) _ ⟨hHeld, below_then HB_.out HB_.out.size hb, HT.out.below hb, (HP.out.elim fun vs h => ⟨vs, h.below hb⟩), ⟨heap_alloc_new _ _, Nat.lt_of_lt_of_le hwlt HB_.out.size⟩⟩)
        · skip
          rintro ⟨mb, gt, gp⟩ wz ⟨hS_, h0_, h1_, h2_, h3_⟩
          clear HB_
          have HB_ : Hid (Below W.heap.size W wz) := Lib.hid h0_
          have HT : Hid (TabIs w wz w.heap.size mb cs) := Lib.hid h1_
          have Hgt : Hid (BoxIs wz gt #[.int .i64 0, .map none] 76 ∧ w.heap.size < gt) := Lib.hid h2_
          have Hgp : Hid (BoxIs wz gp #[.slice none 0 0] 39 ∧ w.heap.size < gp) := Lib.hid h3_
          clear h0_ h1_ h2_ h3_
          have hHeld : wz.cell? ⟨w.heap.size, 0, none⟩ = some (.string s) ∧ wz.cell? ⟨w.heap.size, 1, none⟩ = some (.int .i64 p) ∧ wz.cell? ⟨w.heap.size, 2, none⟩ = some (.slice A2 n2 c2) ∧ wz.cell? ⟨w.heap.size, 3, none⟩ = some (.slice A3 l03.length c3) := hS_
          refine norm_ (a' := ?_) ?_ ?_
          rotate_left
          · simp only [Go.Proofs.YthgnbeeobhfeaaaW.PrintLast.putAll, Act.put, List.setIfInBounds_toArray, List.set_cons_zero, List.set_cons_succ]
            rfl
          refine one_ (i := 4) (N := some 18) #[true, true, true, true, true, true, true, false, false] rfl rfl (by kernel_rfl) (by decide) (fun K hK => ?_)
          refine goes_ Try.func18 (by kernel_rfl) rfl #[bodyV s p A2 n2 c2 A3 l03.length c3] (by rfl) rfl rfl (by simp only [List.map_toArray, List.map_cons, List.map_nil]; rfl) ?_
          with_reducible refine (preds_any s p A2 n2 c2 A3 c3 l03 _ (Kd.C_below HC.out (hwW.trans (HB_.out.mono hwW.size))) hf).mono ?_
          rintro e w3 ⟨vpx, vsx, rfl, hrr, hb⟩
          have hvl : vsx.length = l03.length := by rw [hrr.len]; simp
          obtain ⟨Apx, cpx, hvx⟩ := own_slice hrr.own
          rw [hvl] at hvx
          subst hvx
          refine ⟨_, rfl, ?_⟩
          refine hK.out _ _ ⟨hbody _ (below_then HB_.out HB_.out.size hb) 0 _ rfl, hbody _ (below_then HB_.out HB_.out.size hb) 1 _ rfl, hbody _ (below_then HB_.out HB_.out.size hb) 2 _ rfl, hbody _ (below_then HB_.out HB_.out.size hb) 3 _ rfl⟩ (fun hHeld => ?_)
          clear hK K
          refine norm_ (a' := ?_) ?_ ?_
          rotate_left
          · show Act.put _ (some 18) _ = _
            simp only [Act.put, List.setIfInBounds_toArray, List.set_cons_zero, List.set_cons_succ, i64_w, i32_w]
            rfl
          exact norm_ (by first | (simp only [Go.Proofs.YthgnbeeobhfeaaaW.PrintLast.putAll, Act.put, List.setIfInBounds_toArray, List.set_cons_zero, List.set_cons_succ]; done) | (simp only [Go.Proofs.YthgnbeeobhfeaaaW.PrintLast.putAll, Act.put, List.setIfInBounds_toArray, List.set_cons_zero, List.set_cons_succ]; rfl)) (hJ2_4_5_6 (mb, Apx, cpx, gt, gp) _ ⟨hHeld, below_then HB_.out HB_.out.size hb, HT.out.below hb, ⟨vsx, (hrr.mono (fun _ _ => trivial)).weaken (Nat.le_trans hwW.size HB_.out.size)⟩, ⟨Hgt.out.1.below hb Hgt.out.1.lt, Hgt.out.2⟩, ⟨Hgp.out.1.below hb Hgp.out.1.lt, Hgp.out.2⟩⟩)
      · skip
        rintro ⟨mb, Ap, cp, gp⟩ wz ⟨hS_, h0_, h1_, h2_, h3_⟩
        clear HB_
        have HB_ : Hid (Below W.heap.size W wz) := Lib.hid h0_
        have HT : Hid (TabIs w wz w.heap.size mb cs) := Lib.hid h1_
        have HP : Hid (∃ vs, RR wz w.heap.size 3 42 (fun _ => True) (.slice Ap l03.length cp) vs (((List.range l03.length).map (predsL (bksOf l03))).map (encs (Value.int .i64)))) := Lib.hid h2_
        have Hgp : Hid (BoxIs wz gp #[.slice none 0 0] 39 ∧ w.heap.size < gp) := Lib.hid h3_
        clear h0_ h1_ h2_ h3_
        have hHeld : wz.cell? ⟨w.heap.size, 0, none⟩ = some (.string s) ∧ wz.cell? ⟨w.heap.size, 1, none⟩ = some (.int .i64 p) ∧ wz.cell? ⟨w.heap.size, 2, none⟩ = some (.slice A2 n2 c2) ∧ wz.cell? ⟨w.heap.size, 3, none⟩ = some (.slice A3 l03.length c3) := hS_
        refine norm_ (a' := ?_) ?_ ?_
        rotate_left
        · simp only [Go.Proofs.YthgnbeeobhfeaaaW.PrintLast.putAll, Act.put, List.setIfInBounds_toArray, List.set_cons_zero, List.set_cons_succ]
          rfl
        refine one_ (i := 5) (N := some 7) #[true, true, true, true, true, true, true, false, false] rfl rfl (by kernel_rfl) (by decide) (fun K hK => ?_)
        refine value_ (w1 := ?_) (v := ?_) (by rfl) rfl ?_ ?_
        rotate_left 2
        · go_simp
          constructor
          · rfl
          · rfl
        have hb := below_alloc (Below.refl wz.heap.size wz) (Obj.cells (#[.int .i64 0, .map none] : Array Value) 76)
        refine hK.out _ _ ⟨hbody _ (below_then HB_.out HB_.out.size hb) 0 _ rfl, hbody _ (below_then HB_.out HB_.out.size hb) 1 _ rfl, hbody _ (below_then HB_.out HB_.out.size hb) 2 _ rfl, hbody _ (below_then HB_.out HB_.out.size hb) 3 _ rfl⟩ (fun hHeld => ?_)
        clear hK K
        refine norm_ (a' := ?_) ?_ ?_
        rotate_left
        · show Act.put _ (some 7) _ = _
          simp only [Act.put, List.setIfInBounds_toArray, List.set_cons_zero, List.set_cons_succ, i64_w, i32_w]
          rfl
        exact norm_ (by first | (simp only [Go.Proofs.YthgnbeeobhfeaaaW.PrintLast.putAll, Act.put, List.setIfInBounds_toArray, List.set_cons_zero, List.set_cons_succ]; done) | (simp only [Go.Proofs.YthgnbeeobhfeaaaW.PrintLast.putAll, Act.put, List.setIfInBounds_toArray, List.set_cons_zero, List.set_cons_succ]; rfl)) (hJ2_4_5_6 (mb, Ap, cp, wz.heap.size, gp) _ ⟨hHeld, below_then HB_.out HB_.out.size hb, HT.out.below hb, (HP.out.elim fun vs h => ⟨vs, h.below hb⟩), ⟨heap_alloc_new _ _, Nat.lt_of_lt_of_le hwlt HB_.out.size⟩, ⟨Hgp.out.1.below hb Hgp.out.1.lt, Hgp.out.2⟩⟩)
    · skip
      rintro ⟨mb, Ap, cp, gt⟩ wz ⟨hS_, h0_, h1_, h2_, h3_⟩
      clear HB_
      have HB_ : Hid (Below W.heap.size W wz) := Lib.hid h0_
      have HT : Hid (TabIs w wz w.heap.size mb cs) := Lib.hid h1_
      have HP : Hid (∃ vs, RR wz w.heap.size 3 42 (fun _ => True) (.slice Ap l03.length cp) vs (((List.range l03.length).map (predsL (bksOf l03))).map (encs (Value.int .i64)))) := Lib.hid h2_
      have Hgt : Hid (BoxIs wz gt #[.int .i64 0, .map none] 76 ∧ w.heap.size < gt) := Lib.hid h3_
      clear h0_ h1_ h2_ h3_
      have hHeld : wz.cell? ⟨w.heap.size, 0, none⟩ = some (.string s) ∧ wz.cell? ⟨w.heap.size, 1, none⟩ = some (.int .i64 p) ∧ wz.cell? ⟨w.heap.size, 2, none⟩ = some (.slice A2 n2 c2) ∧ wz.cell? ⟨w.heap.size, 3, none⟩ = some (.slice A3 l03.length c3) := hS_
      refine norm_ (a' := ?_) ?_ ?_
      rotate_left
      · simp only [Go.Proofs.YthgnbeeobhfeaaaW.PrintLast.putAll, Act.put, List.setIfInBounds_toArray, List.set_cons_zero, List.set_cons_succ]
        rfl
      refine one_ (i := 6) (N := some 8) #[true, true, true, true, true, true, true, false, false] rfl rfl (by kernel_rfl) (by decide) (fun K hK => ?_)
      refine value_ (w1 := ?_) (v := ?_) (by rfl) rfl ?_ ?_
      rotate_left 2
      · go_simp
        constructor
        · rfl
        · rfl
      have hb := below_alloc (Below.refl wz.heap.size wz) (Obj.cells (#[.slice none 0 0] : Array Value) 39)
      refine hK.out _ _ ⟨hbody _ (below_then HB_.out HB_.out.size hb) 0 _ rfl, hbody _ (below_then HB_.out HB_.out.size hb) 1 _ rfl, hbody _ (below_then HB_.out HB_.out.size hb) 2 _ rfl, hbody _ (below_then HB_.out HB_.out.size hb) 3 _ rfl⟩ (fun hHeld => ?_)
      clear hK K
      refine norm_ (a' := ?_) ?_ ?_
      rotate_left
      · show Act.put _ (some 8) _ = _
        simp only [Act.put, List.setIfInBounds_toArray, List.set_cons_zero, List.set_cons_succ, i64_w, i32_w]
        rfl
      exact norm_ (by first | (simp only [Go.Proofs.YthgnbeeobhfeaaaW.PrintLast.putAll, Act.put, List.setIfInBounds_toArray, List.set_cons_zero, List.set_cons_succ]; done) | (simp only [Go.Proofs.YthgnbeeobhfeaaaW.PrintLast.putAll, Act.put, List.setIfInBounds_toArray, List.set_cons_zero, List.set_cons_succ]; rfl)) (hJ2_4_5_6 (mb, Ap, cp, gt, wz.heap.size) _ ⟨hHeld, below_then HB_.out HB_.out.size hb, HT.out.below hb, (HP.out.elim fun vs h => ⟨vs, h.below hb⟩), ⟨Hgt.out.1.below hb Hgt.out.1.lt, Hgt.out.2⟩, ⟨heap_alloc_new _ _, Nat.lt_of_lt_of_le hwlt HB_.out.size⟩⟩)
  rintro ⟨mb, Ap, cp, gt, gp⟩ wz ⟨hS_, h0_, h1_, h2_, h3_, h4_⟩
  clear HB_
  have HB_ : Hid (Below W.heap.size W wz) := Lib.hid h0_
  have HT : Hid (TabIs w wz w.heap.size mb cs) := Lib.hid h1_
  have HP : Hid (∃ vs, RR wz w.heap.size 3 42 (fun _ => True) (.slice Ap l03.length cp) vs (((List.range l03.length).map (predsL (bksOf l03))).map (encs (Value.int .i64)))) := Lib.hid h2_
  have Hgt : Hid (BoxIs wz gt #[.int .i64 0, .map none] 76 ∧ w.heap.size < gt) := Lib.hid h3_
  have Hgp : Hid (BoxIs wz gp #[.slice none 0 0] 39 ∧ w.heap.size < gp) := Lib.hid h4_
  clear h0_ h1_ h2_ h3_ h4_
  have hHeld : wz.cell? ⟨w.heap.size, 0, none⟩ = some (.string s) ∧ wz.cell? ⟨w.heap.size, 1, none⟩ = some (.int .i64 p) ∧ wz.cell? ⟨w.heap.size, 2, none⟩ = some (.slice A2 n2 c2) ∧ wz.cell? ⟨w.heap.size, 3, none⟩ = some (.slice A3 l03.length c3) := hS_
  refine norm_ (a' := ?_) ?_ ?_
  rotate_left
  · simp only [Go.Proofs.YthgnbeeobhfeaaaW.PrintLast.putAll, Act.put, List.setIfInBounds_toArray, List.set_cons_zero, List.set_cons_succ]
    rfl
  refine last_ (i := 7) (N := none) #[true, true, true, true, true, true, true, true, false] rfl rfl (by kernel_rfl) (by decide) (fun K hK => ?_)
  have hfz0 := frozen_box Hgt.out.1 0
  have hfz1 := frozen_box Hgt.out.1 1
  have hcz0 := Hgt.out.1.cell 0 _ rfl
  have hcz1 := Hgt.out.1.cell 1 _ rfl
  refine skip_ (w1 := ?_) (by rfl) rfl ?_ ?_
  rotate_left
  · go_simp
    rfl
  refine hK.out _ _ ?_
  clear hK K
  refine last_ (i := 8) (N := none) #[true, true, true, true, true, true, true, true, true] rfl rfl (by kernel_rfl) (by decide) (fun K hK => ?_)
  have hb8 := (Hgp.out.1.typed_move (by decide) (set_typed Hgt.out.1 0 (.int .i64 (N : Int)))).typed_move (by decide) (set_typed (set_block (j := 0) Hgt.out.1 (.int .i64 (N : Int))) 1 (.map (some mb)))
  have hfz8 := frozen_box hb8 0
  have hcz8 := hb8.cell 0 _ rfl
  refine skip_ (w1 := ?_) (by rfl) rfl ?_ ?_
  rotate_left
  · go_simp
    rfl
  refine hK.out _ _ ?_
  clear hK K
  refine done_ (by kernel_rfl) ?_
  refine hK _ _ ?_
  clear hK K hHeld
  have s1 := set_typed Hgt.out.1 0 (.int .i64 (N : Int))
  have b1 := set_block (j := 0) Hgt.out.1 (.int .i64 (N : Int))
  have s2 := set_typed b1 1 (.map (some mb))
  have b2 := set_block (j := 1) b1 (.map (some mb))
  have hp2 := (Hgp.out.1.typed_move (by decide) s1).typed_move (by decide) s2
  have s3 := set_typed hp2 0 (.slice Ap l03.length cp)
  have hlw : Below w.heap.size w wz := hwW.trans (HB_.out.mono hwW.size)
  obtain ⟨vs, hrr⟩ := HP.out
  have HTB : Hid (BoxIs (((wz.setCell ⟨gt, 0, none⟩ (.int .i64 (N : Int))).setCell ⟨gt, 1, none⟩ (.map (some mb))).setCell ⟨gp, 0, none⟩ (.slice Ap l03.length cp)) gt #[.int .i64 N, .map (some mb)] 76) := Lib.hid (BoxIs.typed_move b2 (by decide) s3)
  have HBD := Lib.hid ((((hbx.below HB_.out hbx.lt).typed_move (T := 76) (by decide) s1).typed_move (T := 76) (by decide) s2).typed_move (T := 39) (by decide) s3)
  have HPB : Hid (BoxIs (((wz.setCell ⟨gt, 0, none⟩ (.int .i64 (N : Int))).setCell ⟨gt, 1, none⟩ (.map (some mb))).setCell ⟨gp, 0, none⟩ (.slice Ap l03.length cp)) gp #[.slice Ap l03.length cp] 39) := Lib.hid (set_block hp2 _)
  have HTAB := Lib.hid (((HT.out.typed (T := 76) (by decide) s1).typed (T := 76) (by decide) s2).typed (T := 39) (by decide) s3)
  have HLOW := Lib.hid (((hlw.grown (set_grown wz gt 0 (.int .i64 (N : Int))) hlw.size (fun k e => by injection e with e; have := Hgt.out.2; omega)).grown (set_grown _ gt 1 (.map (some mb))) (by rw [World.size_setCell]; exact hlw.size) (fun k e => by injection e with e; have := Hgt.out.2; omega)).grown (set_grown _ gp 0 (.slice Ap l03.length cp)) (by rw [World.size_setCell, World.size_setCell]; exact hlw.size) (fun k e => by injection e with e; have := Hgp.out.2; omega))
  have HPRD := Lib.hid (((hrr.typed_move (T := 76) (by decide) (by decide) s1).typed_move (T := 76) (by decide) (by decide) s2).typed_move (T := 39) (by decide) (by decide) s3)
  clear s1 b1 s2 b2 hp2 s3 hlw hrr hb8 hfz0 hfz1 hcz0 hcz1 hfz8 hcz8 HB_ HT HP Hgt Hgp hwW hwlt hbx hbody
  generalize ((wz.setCell ⟨gt, 0, none⟩ (.int .i64 (N : Int))).setCell ⟨gt, 1, none⟩ (.map (some mb))).setCell ⟨gp, 0, none⟩ (.slice Ap l03.length cp) = W2 at *
  have hm30 : l03.length ≤ 30 := (fewB_at hf).1
  have hNle : N ≤ 1048576 := by omega
  have hN30 : N ≤ 30 := by omega
  have hmk := run_make_row' (P := Try.prog) 31 44 (.slice none 0 0) 24 Try.underlying31 info44 rfl .i64 .i64 l03.length (by omega) (by omega)
  have hmf : ∀ (fn : Fn) (first cap : Array Value) (w : World), (Instr.makeFunc fn first cap).run Try.prog w = .ok (.func fn first cap) w := fun _ _ _ _ => rfl
  have hc3 : W2.cell? ⟨w.heap.size, 3, none⟩ = some (.slice A3 l03.length c3) := HBD.out.cell 3 _ rfl
  have hc3' : ∀ ob ob', ((W2.alloc ob).alloc ob').cell? ⟨w.heap.size, 3, none⟩ = some (.slice A3 l03.length c3) := fun ob ob' => pw_cell_below (below_alloc (below_alloc (Below.refl _ _) ob) ob') hc3
  go_wp2_with fail
  clear hc3 hc3' hmk
  have hmade := own_made (W := W2) (B := w.heap.size) (m := l03.length) HLOW.out.size (by omega)
  have hb23 : Below W2.heap.size W2 ((W2.alloc (.cells (madeCells #[.slice none 0 0] l03.length) 44)).alloc (.cells #[.slice (some ⟨W2.heap.size, 0, none⟩) l03.length l03.length] 31)) := below_alloc (below_alloc (Below.refl _ _) _) _
  have hallb : BoxIs ((W2.alloc (.cells (madeCells #[.slice none 0 0] l03.length) 44)).alloc (.cells #[.slice (some ⟨W2.heap.size, 0, none⟩) l03.length l03.length] 31)) (W2.heap.size + 1) #[.slice (some ⟨W2.heap.size, 0, none⟩) l03.length l03.length] 31 := by
    have := heap_alloc_new (W2.alloc (.cells (madeCells #[.slice none 0 0] l03.length) 44)) (.cells #[.slice (some ⟨W2.heap.size, 0, none⟩) l03.length l03.length] 31)
    rwa [World.size_alloc] at this
  have HOO3 := Lib.hid (pw_own_below hmade (below_alloc (Below.refl _ _) (.cells #[.slice (some ⟨W2.heap.size, 0, none⟩) l03.length l03.length] 31)))
  have HBP3 : Hid (BPre w W2 _ gt gp (W2.heap.size + 1) W2.heap.size mb N s p A2 n2 c2 A3 c3 l03 cs Ap cp) := Lib.hid ⟨HTB.out.below hb23 HTB.out.lt, HBD.out.below hb23 HBD.out.lt, HPB.out.below hb23 HPB.out.lt, hallb, HTAB.out.below hb23, hb23, below_then HLOW.out HLOW.out.size hb23, HLOW.out.size⟩
  have hmbl : mb < W2.heap.size := by
    obtain ⟨n0, f, hM, _⟩ := HTAB.out
    exact hM.lt
  have hWl := HLOW.out.size
  clear hmade hb23 hallb HTB HBD HPB HTAB HLOW
  generalize (W2.alloc (.cells (madeCells #[.slice none 0 0] l03.length) 44)).alloc (.cells #[.slice (some ⟨W2.heap.size, 0, none⟩) l03.length l03.length] 31) = W3 at *
  go_loopw [10, 26] (fun u10 u26 wr => ∃ (i : Nat) (us : List Value), u26 = .int .i64 i ∧ i ≤ l03.length ∧ Hid (BPre w W2 wr gt gp (W2.heap.size + 1) W2.heap.size mb N s p A2 n2 c2 A3 c3 l03 cs Ap cp) ∧ Hid (wr.ownsRow w.heap.size 44 1 (.slice (some ⟨W2.heap.size, 0, none⟩) l03.length l03.length) l03.length us) ∧ Hid (∀ (q : Nat) (u : Value), us[q]? = some u → q < i → N2 wr w.heap.size u [List.replicate N false]) ∧ Hid (wr.ownsRow W2.heap.size 3 1 u10 i (encs (Value.int .i64) ((List.range i).map fun k : Nat => (k : Int))))) (fun _ u26 _ => l03.length - (intOf u26).toNat)
  case atStart => exact ⟨0, _, rfl, Nat.zero_le _, HBP3, HOO3, Lib.hid (fun q u _ hq => absurd hq (by omega)), Lib.hid (own_nil _ _ _ _)⟩
  case round =>
    clear HBP3 HOO3
    obtain ⟨i, us, rfl, hi, HBP, HOO, HUS, HFI⟩ := hrel
    by_cases hlt : i < l03.length
    · obtain ⟨uo, huo⟩ : ∃ u, us[i]? = some u := ⟨_, List.getElem?_eq_getElem (by have := HOO.out.1; omega)⟩
      have hcell := HOO.out.cells (g := W2.heap.size) rfl i uo huo
      rw [add_plain] at hcell
      have p0 : ((0 : Int) ≤ (i : Int)) = True := eq_true (by omega)
      have p1 : ((i : Int) < (l03.length : Int)) = True := eq_true (by omega)
      go_wp2_with fail
      rename_i K hK
      refine start_ (n := 7) (S := fun w' => w'.cell? ⟨W2.heap.size + 1, 0, none⟩ = some (.slice (some ⟨W2.heap.size, 0, none⟩) l03.length l03.length) ∧ w'.cell? ⟨gt, 0, none⟩ = some (.int .i64 N) ∧ w'.cell? ⟨gt, 1, none⟩ = some (.map (some mb))) (ds := [6]) #[false, false, false, false, false, false, false] (by kernel_rfl) rfl rfl ⟨((HBP.out.below (below_drew (Below.refl _ _)))).all.cell 0 _ rfl, ((HBP.out.below (below_drew (Below.refl _ _)))).tb.cell 0 _ rfl, ((HBP.out.below (below_drew (Below.refl _ _)))).tb.cell 1 _ rfl⟩ (fun hHeld => ?_)
      refine pure_ (i := 1) (N := some 30) (v := ?_) (a' := ?_) #[false, true, false, false, false, false, false] rfl rfl (by kernel_rfl) (fun _ _ _ h => h) (Or.inl ⟨by rfl, ?_⟩) ?_ ?_
      rotate_left
      · intro w'
        go_simp
        with_reducible rfl
      rotate_left
      · simp only [Act.put, List.setIfInBounds_toArray, List.set_cons_zero, List.set_cons_succ, i64_w, i32_w]
        rfl
      refine take_ (i := 0) (N := some 29) (v := ?_) (a' := ?_) #[true, true, false, false, false, false, false] rfl rfl (by kernel_rfl) (fun _ _ _ h => h) (Or.inl ⟨by rfl, ?_⟩) hHeld ?_ ?_
      rotate_left
      · rintro w' ⟨s0, s1, s2⟩
        go_simp
        with_reducible rfl
      rotate_left
      · simp only [Act.put, List.setIfInBounds_toArray, List.set_cons_zero, List.set_cons_succ, i64_w, i32_w]
        rfl
      refine take_ (i := 2) (N := some 31) (v := ?_) (a' := ?_) #[true, true, true, false, false, false, false] rfl rfl (by kernel_rfl) (fun _ _ _ h => h) (Or.inl ⟨by rfl, ?_⟩) hHeld ?_ ?_
      rotate_left
      · rintro w' ⟨s0, s1, s2⟩
        go_simp
        with_reducible rfl
      rotate_left
      · simp only [Act.put, List.setIfInBounds_toArray, List.set_cons_zero, List.set_cons_succ, i64_w, i32_w]
        rfl
      refine one_ (i := 3) (N := some 32) #[true, true, true, true, false, false, false] rfl rfl (by kernel_rfl) (by decide) (fun K hK => ?_)
      refine goes_ Try.func28 (by kernel_rfl) rfl #[.agg #[.int .i64 N, .map (some mb)], .bool false] (by rfl) rfl rfl (by simp only [List.map_toArray, List.map_cons, List.map_nil]; rfl) ?_
      with_reducible refine (flags_any _ N (some mb) false hNle).mono ?_
      rintro e w5 ⟨v5, rfl, ho5, hb5⟩
      obtain ⟨Ax, cx, hvx⟩ := own_slice ho5
      rw [List.length_replicate] at hvx
      subst hvx
      refine ⟨_, rfl, ?_⟩
      have hb5' := below_then (below_drew (Below.refl wr.heap.size wr)) (Nat.le_refl _) hb5
      have HB5 := Lib.hid (HBP.out.below hb5')
      refine hK.out _ _ ⟨(HB5.out).all.cell 0 _ rfl, (HB5.out).tb.cell 0 _ rfl, (HB5.out).tb.cell 1 _ rfl⟩ (fun hHeld => ?_)
      clear hK K
      refine norm_ (a' := ?_) ?_ ?_
      rotate_left
      · show Act.put _ (some 32) _ = _
        simp only [Act.put, List.setIfInBounds_toArray, List.set_cons_zero, List.set_cons_succ, i64_w, i32_w]
        rfl
      refine one_ (i := 4) (N := some 33) #[true, true, true, true, true, false, false] rfl rfl (by kernel_rfl) (by decide) (fun K hK => ?_)
      refine value_ (w1 := ?_) (v := ?_) (by rfl) rfl ?_ ?_
      rotate_left 2
      · go_simp
        constructor
        · rfl
        · rfl
      have hb6 := below_then hb5' hb5'.size (below_alloc (Below.refl _ _) (.cells #[Value.slice Ax N cx] 26))
      have HB6 := Lib.hid (HBP.out.below hb6)
      refine hK.out _ _ ⟨(HB6.out).all.cell 0 _ rfl, (HB6.out).tb.cell 0 _ rfl, (HB6.out).tb.cell 1 _ rfl⟩ (fun hHeld => ?_)
      clear hK K
      refine norm_ (a' := ?_) ?_ ?_
      rotate_left
      · show Act.put _ (some 33) _ = _
        simp only [Act.put, List.setIfInBounds_toArray, List.set_cons_zero, List.set_cons_succ, i64_w, i32_w]
        rfl
      refine pure_ (i := 5) (N := some 34) (v := ?_) (a' := ?_) #[true, true, true, true, true, true, false] rfl rfl (by kernel_rfl) (fun _ _ _ h => h) (Or.inl ⟨by rfl, ?_⟩) ?_ ?_
      rotate_left
      · intro w'
        go_simp
        with_reducible rfl
      rotate_left
      · simp only [Act.put, List.setIfInBounds_toArray, List.set_cons_zero, List.set_cons_succ, i64_w, i32_w]
        rfl
      refine last_ (i := 6) (N := none) #[true, true, true, true, true, true, true] rfl rfl (by kernel_rfl) (by decide) (fun K hK => ?_)
      obtain ⟨cg, hcg⟩ := own_typed (pw_own_below HOO.out hb6) W2.heap.size rfl
      have hfz6 := frozen_box (g := W2.heap.size) hcg i
      have hcz6 := pw_cell_below hb6 hcell
      refine skip_ (w1 := ?_) (by rfl) rfl ?_ ?_
      rotate_left
      · go_simp
        rfl
      refine hK.out _ _ ?_
      clear hK K
      refine done_ (by kernel_rfl) ?_
      refine hK _ _ ?_
      clear hK K hHeld
      have hst := set_typed (g := W2.heap.size) hcg i (.slice (some ⟨w5.heap.size, 0, none⟩) 1 1)
      have hsz6 := hb6.size
      have HBP6 := Lib.hid (HB6.out.typed (T := 44) (by decide) hst ((Below.refl _ _).grown (set_grown _ W2.heap.size i _) HB6.out.bl.size (fun k e => by injection e with e; omega)))
      have HOO6 := Lib.hid ((pw_own_below HOO.out hb6).stored i (.slice (some ⟨w5.heap.size, 0, none⟩) 1 1)).1
      have hone := N2.one (W := w5) (B := w.heap.size) (u := .slice Ax N cx) (xs := List.replicate N false) HB5.out.low.size (own_weaken ho5 (Nat.le_trans HBP.out.low.size (Nat.le_refl _)))
      have HUS6 : Hid (∀ (q : Nat) (u : Value), (us.set i (.slice (some ⟨w5.heap.size, 0, none⟩) 1 1))[q]? = some u → q < i + 1 → N2 ((w5.alloc (.cells #[Value.slice Ax N cx] 26)).setCell ⟨W2.heap.size, i, none⟩ (.slice (some ⟨w5.heap.size, 0, none⟩) 1 1)) w.heap.size u [List.replicate N false]) := Lib.hid (fun q u hu hq => by
        by_cases e : i = q
        · subst e
          rw [List.getElem?_set_self (by have := HOO.out.1; omega)] at hu
          injection hu with hu
          subst hu
          exact hone.stays (T := 44) (by decide) hst
        · rw [List.getElem?_set_ne e] at hu
          exact ((HUS.out q u hu (by omega)).below hb6).stays (T := 44) (by decide) hst)
      have HFI6 := Lib.hid (own_typed_move (T := 44) (pw_own_below HFI.out hb6) (by decide) hst)
      clear hst hsz6 HB6 HB5 hone ho5 hb5 hb5' hb6 hcg hfz6 hcz6 HBP HOO HUS HFI hcell huo
      generalize (w5.alloc (.cells #[Value.slice Ax N cx] 26)).setCell ⟨W2.heap.size, i, none⟩ (.slice (some ⟨w5.heap.size, 0, none⟩) 1 1) = w6 at *
      have hel : (encs (Value.int .i64) ((List.range i).map fun k : Nat => (k : Int))).length = i := by rw [encs_length]; simp
      have HFI7 : Hid (w6.ownsRow W2.heap.size 3 1 u10 (encs (Value.int .i64) ((List.range i).map fun k : Nat => (k : Int))).length (encs (Value.int .i64) ((List.range i).map fun k : Nat => (k : Int)))) := Lib.hid (by rw [hel]; exact HFI6.out)
      have HEL := Lib.hid hel
      clear hel
      go_wp2_with (first | (at_builtin; refine print_append (w0 := W2) W2.heap.size rfl (.tmp 35) (.tmp 37) 42 3 (.int .i64 0) 8 rfl Try.underlying42 info3 rfl (by decide) u10 (encs (Value.int .i64) ((List.range i).map fun k : Nat => (k : Int))) (.int .i64 i) rfl rfl rfl HFI7.out HBP6.out.bl HBP6.out.bl.size (by rw [HEL.out]; omega) ?_; intro v7 w7 ho7 hb7 hg7 _; have HO7 := Lib.hid ho7; have HG7 := Lib.hid hg7; clear ho7 hb7 hg7))
      go_roundw
      case rel =>
        have hst7 := grown_typed HFI7.out HG7.out
        refine ⟨i + 1, us.set i (.slice (some ⟨w5.heap.size, 0, none⟩) 1 1), by go_num, by omega, Lib.hid (HBP6.out.typed (T := 3) (by decide) hst7 ((Below.refl _ _).grown HG7.out HBP6.out.bl.size (fun k e => own_base HFI7.out k e))), Lib.hid (own_typed_move (T := 3) HOO6.out (by decide) hst7), Lib.hid (fun q u hu hq => (HUS6.out q u hu hq).stays (T := 3) (by decide) hst7), Lib.hid ?_⟩
        have h7 := HO7.out
        rw [List.length_append, HEL.out, List.length_singleton] at h7
        rw [List.range_succ, List.map_append, List.map_singleton]
        simpa [encs] using h7
      case measure => simp [intOf]; omega
    · obtain rfl : i = l03.length := by omega
      clear hlt hi
      have hbl : (bksOf l03).length = l03.length := bksOf_length l03
      obtain ⟨Afi, cfi, rfl⟩ := own_slice HFI.out
      have hcga : ∀ ob, (wr.alloc ob).cell? ⟨W2.heap.size + 1, 0, none⟩ = some (.slice (some ⟨W2.heap.size, 0, none⟩) l03.length l03.length) := fun ob => pw_cell_below (below_alloc (Below.refl _ _) ob) (HBP.out.all.cell 0 _ rfl)
      go_wp2_with fail
      clear hcga hmf
      have hb9 := below_alloc (Below.refl wr.heap.size wr) (.cells #[.func (.func 38) #[] #[.pointer (some ⟨gt, 0, none⟩), .pointer (some ⟨w.heap.size, 0, none⟩), .pointer (some ⟨W2.heap.size + 1, 0, none⟩)]] 84)
      have hgs9 : BoxIs (wr.alloc (.cells #[.func (.func 38) #[] #[.pointer (some ⟨gt, 0, none⟩), .pointer (some ⟨w.heap.size, 0, none⟩), .pointer (some ⟨W2.heap.size + 1, 0, none⟩)]] 84)) wr.heap.size #[.func (.func 38) #[] #[.pointer (some ⟨gt, 0, none⟩), .pointer (some ⟨w.heap.size, 0, none⟩), .pointer (some ⟨W2.heap.size + 1, 0, none⟩)]] 84 := heap_alloc_new _ _
      have HBP9 := Lib.hid (HBP.out.below hb9)
      have HOO9 := Lib.hid (pw_own_below HOO.out hb9)
      have HUS9 := Lib.hid (fun (q : Nat) (u : Value) (hu : us[q]? = some u) (hq : q < l03.length) => (HUS.out q u hu hq).below hb9)
      have HFI9 := Lib.hid (pw_own_below HFI.out hb9)
      have HGS9 := Lib.hid hgs9
      have hsz9 : (wr.alloc (.cells #[.func (.func 38) #[] #[.pointer (some ⟨gt, 0, none⟩), .pointer (some ⟨w.heap.size, 0, none⟩), .pointer (some ⟨W2.heap.size + 1, 0, none⟩)]] 84)).heap.size = wr.heap.size + 1 := by simp
      have hwr2 := HBP.out.bl.size
      clear hb9 hgs9 HBP HOO HUS HFI
      generalize hgsd : wr.heap.size = gs at *
      generalize wr.alloc (.cells #[.func (.func 38) #[] #[.pointer (some ⟨gt, 0, none⟩), .pointer (some ⟨w.heap.size, 0, none⟩), .pointer (some ⟨W2.heap.size + 1, 0, none⟩)]] 84) = w9 at *
      have hl9 : ((List.range l03.length).map fun k : Nat => (k : Int)).length = l03.length := by simp
      have hl0 : (Kd.int .i64).C w9 Afi ((List.range l03.length).map fun k : Nat => (k : Int)).length ((List.range l03.length).map fun k : Nat => (k : Int)) := own_int_C (c := cfi) (by rw [hl9]; exact HFI9.out)
      have hcfi : l03.length ≤ cfi := by
        have := HFI9.out.2
        rcases this with ⟨h1, h2⟩ | ⟨g, cap, cur, h1, _, _, h2, _⟩
        · omega
        · injection h1 with _ _ h1
          omega
      have hl3 : ∀ x ∈ (List.range l03.length).map (fun k : Nat => (k : Int)), 0 ≤ x ∧ x < (l03.length : Int) := fun x hx => by
        obtain ⟨k, hk, rfl⟩ := List.mem_map.1 hx
        have := List.mem_range.1 hk
        omega
      rcases Nat.eq_zero_or_pos l03.length with hm0 | hm0
      · obtain rfl : l03 = [] := List.eq_nil_of_length_eq_zero hm0
        have hset := settleB_any (capo := 0) (settleB_empty (w := w9) _ rfl 0 W2.heap.size (.pointer (some ⟨gs, 0, none⟩)) (.pointer (some ⟨gp, 0, none⟩))) way_empty (by omega) Afi cfi [] hl0 (by simp) (by simp) (fun x hx => by cases hx) (fun _ => ()) (Below.refl _ _) rfl (by omega) (Nat.zero_le _)
        have HSET := Lib.hid hset
        clear hset hm0 hl3 hl0 hl9
        refine HSET.out.mono ?_
        rintro e w10 ⟨rfl, o', hSt, hPhi⟩
        have hSt' : Below w9.heap.size w9 w10 := hSt
        have hcga : w10.cell? ⟨W2.heap.size + 1, 0, none⟩ = some (.slice (some ⟨W2.heap.size, 0, none⟩) 0 0) := pw_cell_below hSt' (HBP9.out.all.cell 0 _ rfl)
        have HST := Lib.hid hSt'
        clear hSt hSt' hPhi HSET
        go_wp2_with fail
        go_ret
        have h0 := pw_own_below HOO9.out HST.out
        have hus : us = [] := List.eq_nil_of_length_eq_zero (by have := h0.1; simpa using this)
        subst hus
        refine ⟨_, rfl, ⟨[], h0, rfl, fun i u xss hu hx => by cases hu⟩, below_then HBP9.out.low HBP9.out.low.size HST.out⟩
      · have hfrm := HPRD.out.own
        have hvl : vs.length = l03.length := by rw [HPRD.out.len]; simp
        rw [hvl] at hfrm
        obtain ⟨gpr, cp', hgp, _, _⟩ := hfrm.form hm0
        injection hgp with e1 e2 e3
        subst e1 e3
        clear e2 hfrm hvl
        have hst0 : BkSt w w9.heap.size gt w.heap.size (W2.heap.size + 1) gs gp gpr cp W2.heap.size mb N s p A2 n2 c2 A3 c3 l03 cs (fun _ => [List.replicate N false]) w9 :=
          ⟨⟨HBP9.out.tb, HBP9.out.bod, HBP9.out.all, HBP9.out.tab, HBP9.out.low, ⟨us, HOO9.out, fun q u hu => HUS9.out q u hu (by have := HOO9.out.1; have := (List.getElem?_eq_some_iff.1 hu).1; omega)⟩, fun _ => ⟨by simp, fun r hr => by rw [List.mem_singleton] at hr; rw [hr]; simp⟩⟩, HGS9.out, HBP9.out.pbx, ⟨W2, vs, HBP9.out.bl, Nat.le_refl _, hWl, HPRD.out⟩, by omega, by omega, HBP9.out.low.size⟩
        have hset := settleB_any (capo := l03.length) (back_settle (w0 := w) (B0 := w9.heap.size) (gt := gt) (gbb := w.heap.size) (ga := W2.heap.size + 1) (gs := gs) (gp := gp) (gpr := gpr) (cp := cp) (go := W2.heap.size) (mb := mb) (s := s) (p := p) (A2 := A2) (n2 := n2) (c2 := c2) (c3 := c3) HC.out hf (show N ≤ 1000 by omega) hcf) (back_way (bksOf l03) (chsOf cs) N hbl) (by omega) Afi cfi _ hl0 (by rw [hl9]; exact hcfi) (by rw [hl9]; omega) hl3 _ hst0 (BPhi.begin (fun x hx => by
          rcases putAll_mem.1 hx with h | h
          · cases h
          · obtain ⟨k, hk, rfl⟩ := List.mem_map.1 h
            exact ⟨k, rfl, by rw [hbl]; exact List.mem_range.1 hk⟩) (fun i hi => putAll_mem.2 (.inr (List.mem_map.2 ⟨i, List.mem_range.2 (by rw [← hbl]; exact hi), rfl⟩)))) (by omega) (Nat.le_refl _)
        rw [hl9] at hset
        have HSET := Lib.hid hset
        clear hset hst0
        refine HSET.out.mono ?_
        rintro e w10 ⟨rfl, o', hSt, hPhi⟩
        have hcga : w10.cell? ⟨W2.heap.size + 1, 0, none⟩ = some (.slice (some ⟨W2.heap.size, 0, none⟩) l03.length l03.length) := hSt.at_.all.cell 0 _ rfl
        have HST := Lib.hid hSt
        have HPH := Lib.hid hPhi
        clear hSt hPhi HSET
        go_wp2_with fail
        go_ret
        obtain ⟨vs', g1, g2⟩ := HST.out.at_.row
        have hl := g1.1
        rw [Nat.mul_one] at hl
        refine ⟨_, rfl, ⟨vs', by rw [hl]; exact g1, by rw [hl]; simp [backL, hbl], fun i u xss hu hx => ?_⟩, HST.out.at_.low⟩
        have hi : i < l03.length := by rw [← hl]; exact (List.getElem?_eq_some_iff.1 hu).1
        have h1 := g2 i u hu
        rw [HPH.out.done (show i < (bksOf l03).length by omega)] at h1
        rw [hN, backL, List.getElem?_map, List.getElem?_range (by omega), Option.map_some, Option.some.injEq] at hx
        rw [← hx]
        exact h1
end Go.Proofs.Ythgnbeeobhfeaaa.T
end
