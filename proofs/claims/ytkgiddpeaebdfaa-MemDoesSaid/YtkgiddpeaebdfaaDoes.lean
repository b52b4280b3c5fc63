/- MemDoes: whatever is done, each call answers, and each word is, as the document says. The walk of the law. -/
import Derived.Test.YtkgiddpeaebdfaaDuo
import Derived.LoopTactic
import Derived.Deep.CutRange
import Derived.Deep.CutBlock
namespace Go.Proofs.Ytkgiddpeaebdfaa
open Go.RowKit

theorem does_inA {W w : World} {A : Option Addr} {l : List Ac} (h : InA W A l) (hb : Below W.heap.size W w) : InA w A l := by
  intro h0
  obtain ⟨b, off, hA, hlt, hc⟩ := h h0
  exact ⟨b, off, hA, Nat.lt_of_lt_of_le hlt hb.size, fun i x hx => ⟨(hc i x hx).1, fun j hj => (hb.cell (p := ⟨b, off + i * 8 + j, none⟩) hlt).trans ((hc i x hx).2 j hj)⟩⟩

set_option maxRecDepth 100000 in
set_option maxHeartbeats 16000000 in
theorem memDoes_in (W : World) (room : Int) (l : List Ac) (A : Option Addr) (c : Nat) (hm : l.length ≤ maxLen) (hr : InA W A l) (hs : smallB l = true) :
    Calls Try.prog 8 #[.int .i64 room, .slice A l.length c] W fun e W' => e = .returned (.bool true) ∧ Below W.heap.size W W' := by
  have HR := Lib.hid hr
  have HM := Lib.hid hm
  have HS := Lib.hid hs
  obtain ⟨hl40, hx100⟩ := smallB_le hs
  have HX := Lib.hid hx100
  clear hr hm hs hx100
  go_enter Try.func8, Try.ntmps8
  go_wp2_with fail
  refine (works_any _).mono ?_
  rintro e w1 ⟨rfl, b1⟩
  have CS := Lib.hid (HS.out ▸ small_any w1 l A c HM.out (does_inA HR.out b1))
  go_wp2_with fail
  refine (CS.out).mono ?_
  rintro e w2 ⟨rfl, b2⟩
  have z2 : Below W.heap.size W w2 := b1.trans (b2.mono b1.size)
  clear CS
  go_wp2_with fail
  refine (Mem.new w2 room).mono ?_
  rintro e w3 ⟨rfl, m3, b3, s3⟩
  go_wp2_with fail
  refine (rnew_any w3 room).mono ?_
  rintro e w4 ⟨rfl, r4, b4⟩
  have D0 := Lib.hid (show Duo W w2.heap.size w3.heap.size w4 (Me.new room) (Rf.new room) (fun k => k = w2.heap.size) (fun k => k = w3.heap.size) from
    ⟨m3.below b4, r4, fun k h1 h2 => by omega, z2.size, by have := z2.size; omega, (z2.trans (b3.mono z2.size)).trans (b4.mono (by have := z2.size; omega))⟩)
  have C0 := Lib.hid (cpl_new room)
  have e0 : (Me.new room).bs.length = 0 ∧ (Rf.new room).ce.length = 0 := ⟨rfl, rfl⟩
  have E0 := Lib.hid e0
  clear m3 b3 r4 b4 b1 b2 z2 e0
  generalize Me.new room = S0 at *
  generalize Rf.new room = R0 at *
  generalize w2.heap.size = B at *
  generalize w3.heap.size = C at *
  generalize (fun k => k = B) = F0 at *
  generalize (fun k => k = C) = G0 at *
  clear s3
  go_wp2_with fail
  go_loopw [9] (fun i wr => ∃ (t : Nat) (S : Me) (R : Rf) (F G : Nat → Prop), t ≤ l.length ∧ i = .int .i64 t ∧ Hid (Duo W B C wr S R F G) ∧ Hid (Cpl S R) ∧ S.bs.length ≤ t ∧ R.ce.length ≤ 100 * t) (fun i _ => l.length - (intOf i).toNat)
  case atStart => exact ⟨0, S0, R0, F0, G0, Nat.zero_le _, rfl, D0, C0, by rw [E0.out.1]; exact Nat.zero_le _, by rw [E0.out.2]; exact Nat.zero_le _⟩
  case round =>
    obtain ⟨t, S, R, F, G, ht, rfl, d, cp, hlen, hce⟩ := hrel
    clear D0 C0 E0
    by_cases hlt : t < l.length
    · obtain ⟨ab, off, rfl, hab, hcells⟩ := HR.out (by omega)
      obtain ⟨x, hx⟩ : ∃ x, l[t]? = some x := ⟨_, List.getElem?_eq_getElem hlt⟩
      obtain ⟨y0, y1, y2, y3, y4, y5, y6, y7, y8⟩ := act_see hab d.out.z hcells hx
      have hok := (hcells t x hx).1
      have HW := Lib.hid hok
      have hn100 := HX.out x (List.mem_of_getElem? hx)
      clear hcells hx hok
      have hti : (0 : Int) ≤ (t : Int) := by omega
      have htl : (t : Int) < (l.length : Int) := by omega
      have hfew : S.bs.length < 1000000000 := by omega
      have hfewR : R.bl.length < 1000 := by have := cp.out.len; omega
      have hfewC : R.ce.length + 1000 < 1000000 := by omega
      go_upto_block 2 with fail
      have N0 := Lib.hid (Rnd.start d.out x)
      clear y0 y1 y2 y3 y4 y5 y6 y7 y8 d
      obtain ⟨a0, ha0⟩ : ∃ a0, a0 = wr.heap.size := ⟨_, rfl⟩
      obtain ⟨r, hr⟩ : ∃ r, x.k.tmod 6 = r := ⟨_, rfl⟩
      have hr6 : r < 6 := by have := Int.tmod_lt_of_pos x.k (show (0 : Int) < 6 by decide); omega
      obtain ⟨lx, ⟨y0, y1, y2, y3, y4, y5, y6, y7⟩, bx, fx, bY, fY⟩ := N0.out.see
      go_cut [13, 14] from 36 to 174 (fun e f wx => ∃ (v : Int) (S' : Me) (R' : Rf) (F' G' : Nat → Prop) (wd : Wd), e = .int .i64 v ∧ f = .int .i64 v ∧ Hid (Rnd W B C wr.heap.size x wx S' R' F' G' wd wd) ∧ Hid (Cpl S' R') ∧ S'.bs.length ≤ t + 1 ∧ R'.ce.length ≤ 100 * (t + 1))
      case first =>
        by_cases hr0 : r = 0
        · subst hr0
          go_wp2_with fail
          refine (Mem.make N0.out.d.mem x.n hfew).mono ?_
          rintro e w21 ⟨rfl, ⟨F21, m21, q21⟩, k21⟩
          have N1 := Lib.hid (N0.out.memM m21 q21 k21)
          clear m21 q21 k21
          clear lx y0 y1 y2 y3 y4 y5 y6 y7 bx fx bY fY
          obtain ⟨lx, ⟨y0, y1, y2, y3, y4, y5, y6, y7⟩, bx, fx, bY, fY⟩ := N1.out.see
          go_wp2_with fail
          have N2 := Lib.hid (N1.out.setx (S.allocW x.n))
          obtain ⟨u1, u2, hR⟩ := N2.out.d.ref
          have hC := ralloc_any hR x.n hfewR
          rw [cp.out.allocE, cp.out.allocW] at hC
          have HC := Lib.hid hC
          clear hC hR
          refine HC.out.mono ?_
          rintro e w22 ⟨rfl, ⟨G22, r22, q22⟩, k22⟩
          have N3 := Lib.hid (N2.out.refM r22 q22 k22)
          clear r22 q22 k22
          clear lx y0 y1 y2 y3 y4 y5 y6 y7 bx fx bY fY HC
          obtain ⟨lx, ⟨y0, y1, y2, y3, y4, y5, y6, y7⟩, bx, fx, bY, fY⟩ := N3.out.see
          go_wp2
          go_meet
          case rel => exact ⟨_, _, _, _, _, _, rfl, rfl, Lib.hid (N3.out.sety (S.allocW x.n)), Lib.hid (cp.out.alloc x.n), by have := alloc_len S x.n; omega, by rw [ralloc_ce]; omega⟩
        by_cases hr1 : r = 1
        · subst hr1
          go_wp2_with fail
          refine (Mem.free N0.out.d.mem x.p.p x.p.a x.p.n).mono ?_
          rintro e w21 ⟨rfl, m21, k21⟩
          have N1 := Lib.hid (N0.out.memK m21 k21)
          clear m21 k21
          clear lx y0 y1 y2 y3 y4 y5 y6 y7 bx fx bY fY
          obtain ⟨lx, ⟨y0, y1, y2, y3, y4, y5, y6, y7⟩, bx, fx, bY, fY⟩ := N1.out.see
          go_wp2_with fail
          have N2 := N1
          obtain ⟨u1, u2, hR⟩ := N2.out.d.ref
          have hC := rfree_any hR x.p.p x.p.a x.p.n
          rw [cp.out.freeE] at hC
          have HC := Lib.hid hC
          clear hC hR
          refine HC.out.mono ?_
          rintro e w22 ⟨rfl, r22, k22⟩
          have N3 := Lib.hid (N2.out.refM r22 (fun _ h => .inl h) k22)
          clear r22 k22
          clear lx y0 y1 y2 y3 y4 y5 y6 y7 bx fx bY fY HC
          obtain ⟨lx, ⟨y0, y1, y2, y3, y4, y5, y6, y7⟩, bx, fx, bY, fY⟩ := N3.out.see
          go_wp2
          go_meet
          case rel => exact ⟨_, _, _, _, _, _, rfl, rfl, N3, Lib.hid (cp.out.free x.p.p x.p.a x.p.n), by rw [free_len]; omega, by rw [rfree_ce]; omega⟩
        by_cases hr2 : r = 2
        · subst hr2
          go_wp2_with fail
          refine (Mem.load N0.out.d.mem x.p.p x.p.a x.p.n).mono ?_
          rintro e w21 ⟨rfl, b21⟩
          have N1 := Lib.hid (N0.out.below b21)
          clear b21
          clear lx y0 y1 y2 y3 y4 y5 y6 y7 bx fx bY fY
          obtain ⟨lx, ⟨y0, y1, y2, y3, y4, y5, y6, y7⟩, bx, fx, bY, fY⟩ := N1.out.see
          go_wp2_with fail
          have N2 := Lib.hid (N1.out.setx (S.loadW x.p.p x.p.a x.p.n))
          obtain ⟨u1, u2, hR⟩ := N2.out.d.ref
          have hC := rload_any hR x.p.p x.p.a x.p.n
          rw [cp.out.loadE, cp.out.loadW] at hC
          have HC := Lib.hid hC
          clear hC hR
          refine HC.out.mono ?_
          rintro e w22 ⟨rfl, b22⟩
          have N3 := Lib.hid (N2.out.below b22)
          clear b22
          clear lx y0 y1 y2 y3 y4 y5 y6 y7 bx fx bY fY HC
          obtain ⟨lx, ⟨y0, y1, y2, y3, y4, y5, y6, y7⟩, bx, fx, bY, fY⟩ := N3.out.see
          go_wp2
          go_meet
          case rel => exact ⟨_, _, _, _, _, _, rfl, rfl, Lib.hid (N3.out.sety (S.loadW x.p.p x.p.a x.p.n)), Lib.hid (cp.out), by omega, by omega⟩
        by_cases hr3 : r = 3
        · subst hr3
          go_wp2_with fail
          refine (Mem.store N0.out.d.mem x.p.p x.p.a x.p.n x.q.p x.q.a x.q.n).mono ?_
          rintro e w21 ⟨rfl, m21, k21⟩
          have N1 := Lib.hid (N0.out.memK m21 k21)
          clear m21 k21
          clear lx y0 y1 y2 y3 y4 y5 y6 y7 bx fx bY fY
          obtain ⟨lx, ⟨y0, y1, y2, y3, y4, y5, y6, y7⟩, bx, fx, bY, fY⟩ := N1.out.see
          go_wp2_with fail
          have N2 := N1
          obtain ⟨u1, u2, hR⟩ := N2.out.d.ref
          have hC := rstore_any hR x.p.p x.p.a x.p.n ⟨x.q.p, x.q.a, x.q.n⟩ (by omega)
          rw [cp.out.storeE] at hC
          have HC := Lib.hid hC
          clear hC hR
          refine HC.out.mono ?_
          rintro e w22 ⟨rfl, ⟨G22, r22, q22⟩, k22⟩
          have N3 := Lib.hid (N2.out.refM r22 q22 k22)
          clear r22 q22 k22
          clear lx y0 y1 y2 y3 y4 y5 y6 y7 bx fx bY fY HC
          obtain ⟨lx, ⟨y0, y1, y2, y3, y4, y5, y6, y7⟩, bx, fx, bY, fY⟩ := N3.out.see
          go_wp2
          go_meet
          case rel => exact ⟨_, _, _, _, _, _, rfl, rfl, N3, Lib.hid (cp.out.store x.p.p x.p.a x.p.n ⟨x.q.p, x.q.a, x.q.n⟩), by rw [store_len]; omega, by have := rstore_ce R x.p.p x.p.a x.p.n ⟨x.q.p, x.q.a, x.q.n⟩; omega⟩
        by_cases hr4 : r = 4
        · subst hr4
          go_wp2_with fail
          refine (Mem.copy N0.out.d.mem x.p.p x.p.a x.p.n x.q.p x.q.a x.q.n x.n).mono ?_
          rintro e w21 ⟨rfl, m21, k21⟩
          have N1 := Lib.hid (N0.out.memK m21 k21)
          clear m21 k21
          clear lx y0 y1 y2 y3 y4 y5 y6 y7 bx fx bY fY
          obtain ⟨lx, ⟨y0, y1, y2, y3, y4, y5, y6, y7⟩, bx, fx, bY, fY⟩ := N1.out.see
          go_wp2_with fail
          have N2 := N1
          obtain ⟨u1, u2, hR⟩ := N2.out.d.ref
          have hC := rcopy_any hR x.p.p x.p.a x.p.n x.q.p x.q.a x.q.n x.n (by omega) (wf_range HW.out.2.2.2.2) hfewC
          rw [cp.out.copyE] at hC
          have HC := Lib.hid hC
          clear hC hR
          refine HC.out.mono ?_
          rintro e w22 ⟨rfl, ⟨G22, r22, q22⟩, k22⟩
          have N3 := Lib.hid (N2.out.refM r22 q22 k22)
          clear r22 q22 k22
          clear lx y0 y1 y2 y3 y4 y5 y6 y7 bx fx bY fY HC
          obtain ⟨lx, ⟨y0, y1, y2, y3, y4, y5, y6, y7⟩, bx, fx, bY, fY⟩ := N3.out.see
          go_wp2
          go_meet
          case rel => exact ⟨_, _, _, _, _, _, rfl, rfl, N3, Lib.hid (cp.out.copy x.p.p x.p.a x.p.n x.q.p x.q.a x.q.n x.n), by rw [copy_len]; omega, by have := rcopy_ce R x.p.p x.p.a x.p.n x.q.p x.q.a x.q.n x.n hn100; omega⟩
        by_cases hr5 : r = 5
        · subst hr5
          go_wp2_with fail
          refine (Mem.clear N0.out.d.mem x.p.p x.p.a x.p.n x.n).mono ?_
          rintro e w21 ⟨rfl, m21, k21⟩
          have N1 := Lib.hid (N0.out.memK m21 k21)
          clear m21 k21
          clear lx y0 y1 y2 y3 y4 y5 y6 y7 bx fx bY fY
          obtain ⟨lx, ⟨y0, y1, y2, y3, y4, y5, y6, y7⟩, bx, fx, bY, fY⟩ := N1.out.see
          go_wp2_with fail
          have N2 := N1
          obtain ⟨u1, u2, hR⟩ := N2.out.d.ref
          have hC := rclear_any hR x.p.p x.p.a x.p.n x.n (by omega)
          rw [cp.out.clearE] at hC
          have HC := Lib.hid hC
          clear hC hR
          refine HC.out.mono ?_
          rintro e w22 ⟨rfl, ⟨G22, r22, q22⟩, k22⟩
          have N3 := Lib.hid (N2.out.refM r22 q22 k22)
          clear r22 q22 k22
          clear lx y0 y1 y2 y3 y4 y5 y6 y7 bx fx bY fY HC
          obtain ⟨lx, ⟨y0, y1, y2, y3, y4, y5, y6, y7⟩, bx, fx, bY, fY⟩ := N3.out.see
          go_wp2
          go_meet
          case rel => exact ⟨_, _, _, _, _, _, rfl, rfl, N3, Lib.hid (cp.out.clear x.p.p x.p.a x.p.n x.n), by rw [clear_len]; omega, by have := rclear_ce R x.p.p x.p.a x.p.n x.n; omega⟩
        · go_wp2
          go_meet
          case rel => exact ⟨_, _, _, _, _, _, rfl, rfl, N0, cp, by omega, by omega⟩
      case rest =>
        obtain ⟨v, S2, R2, F2, G2, wd, rfl, rfl, n2, c2, hlen2, hce2⟩ := hcut
        clear N0 cp hlen hce hfew hfewR hfewC hr hr6 hn100 lx y0 y1 y2 y3 y4 y5 y6 y7 bx fx bY fY
        obtain ⟨lx, ⟨y0, y1, y2, y3, y4, y5, y6, y7⟩, bx, fx, bY, fY⟩ := n2.out.see
        go_wp2_with fail
        refine (Mem.live n2.out.d.mem).mono ?_
        rintro e w3 ⟨rfl, b3⟩
        have n3 := Lib.hid (n2.out.below b3)
        obtain ⟨u1, u2, hR⟩ := n3.out.d.ref
        have hC := rlive_any hR
        rw [c2.out.live] at hC
        have HC := Lib.hid hC
        clear hC hR b3 n2
        go_wp2_with fail
        refine HC.out.mono ?_
        rintro e w4 ⟨rfl, b4⟩
        have n4 := Lib.hid (n3.out.below b4)
        clear HC b4 n3
        go_wp2_with fail
        refine (Mem.words n4.out.d.mem).mono ?_
        rintro e w5 ⟨rfl, b5⟩
        have n5 := Lib.hid (n4.out.below b5)
        obtain ⟨u1, u2, hR⟩ := n5.out.d.ref
        have hC := rwords_any hR
        rw [c2.out.words] at hC
        have HC := Lib.hid hC
        clear hC hR b5 n4
        go_wp2_with fail
        refine HC.out.mono ?_
        rintro e w6 ⟨rfl, b6⟩
        have n6 := Lib.hid (n5.out.below b6)
        obtain ⟨u1, u2, hR⟩ := n6.out.d.ref
        have hC := rload_any hR x.p.p x.p.a x.p.n
        rw [c2.out.loadE] at hC
        have HC := Lib.hid hC
        clear hC hR b6 n5 lx y0 y1 y2 y3 y4 y5 y6 y7 bx fx bY fY
        obtain ⟨lx, ⟨y0, y1, y2, y3, y4, y5, y6, y7⟩, bx, fx, bY, fY⟩ := n6.out.see
        go_wp2_with fail
        refine HC.out.mono ?_
        rintro e w7 ⟨rfl, b7⟩
        have n7 := Lib.hid (n6.out.below b7)
        clear HC b7 n6 lx y0 y1 y2 y3 y4 y5 y6 y7 bx fx bY fY
        obtain ⟨lx, ⟨y0, y1, y2, y3, y4, y5, y6, y7⟩, bx, fx, bY, fY⟩ := n7.out.see
        have n8 := Lib.hid (n7.out.below (below_alloc (Below.refl _ _) (.cells #[.bool (R2.loadW x.p.p x.p.a x.p.n).p, .int .i64 (R2.loadW x.p.p x.p.a x.p.n).a, .int .i64 (R2.loadW x.p.p x.p.a x.p.n).n] 23)))
        have la : wr.heap.size < w7.heap.size := by omega
        have HI := Lib.hid (Mem.isSet n8.out.d.mem x.p.p x.p.a x.p.n)
        generalize S2.loadE x.p.p x.p.a x.p.n = le at *
        go_wp2_with fail
        refine HI.out.mono ?_
        rintro e w9 ⟨rfl, b9⟩
        have n9 := Lib.hid (n8.out.d.below b9)
        clear HI b9 n7 n8 la lx y0 y1 y2 y3 y4 y5 y6 y7 bx fx bY fY
        go_wp2
        go_roundw
        case rel => exact ⟨t + 1, S2, R2, F2, G2, by omega, by go_num, n9, c2, hlen2, hce2⟩
        case measure => simp [intOf]; omega
    · obtain rfl : t = l.length := by omega
      clear HR HX HS HM hlen hce
      go_wp2_with fail
      go_loopw [17] (fun i wq => ∃ t : Nat, t ≤ R.bl.length ∧ i = .int .i64 t ∧ Hid (Duo W B C wq S R F G)) (fun i _ => R.bl.length - (intOf i).toNat)
      case atStart => exact ⟨0, Nat.zero_le _, rfl, d⟩
      case round =>
        obtain ⟨t, ht2, rfl, dq⟩ := hrel
        clear d
        obtain ⟨v1, v2, hR⟩ := dq.out.ref
        obtain ⟨A1, cap1, rfl⟩ := or_slice hR.rb
        obtain ⟨c0, c1, c3, c4, c5⟩ := hR.see
        have few := hR.few.1
        have HRf := Lib.hid hR
        clear hR
        by_cases hlt2 : t < R.bl.length
        · obtain ⟨z, hz⟩ : ∃ z, R.bl[t]? = some z := ⟨_, List.getElem?_eq_getElem hlt2⟩
          have hzN := HRf.out.few.2.2 z (List.mem_of_getElem? hz)
          have HZ := Lib.hid hz
          have ht3 : (t : Int) < (R.bl.length : Int) := by omega
          clear hz
          go_wp2_with fail
          clear c0 c1 c3 c4 c5 HRf
          go_loopw [18] (fun i wq => ∃ u : Nat, (u : Int) ≤ z.1 ∧ i = .int .i64 u ∧ Hid (Duo W B C wq S R F G)) (fun i _ => z.1.toNat - (intOf i).toNat)
          case atStart => exact ⟨0, by omega, rfl, dq⟩
          case round =>
            obtain ⟨u, hu, rfl, dk⟩ := hrel
            clear dq
            obtain ⟨v1, v2, hR⟩ := dk.out.ref
            obtain ⟨A1, cap1, rfl⟩ := or_slice hR.rb
            obtain ⟨c0, c1, c3, c4, c5⟩ := hR.see
            obtain ⟨gb, rfl, hgb, hgl, hgf, hcells⟩ := or_at hR.rb (by omega)
            have hN := hcells _ _ (blc_at R.bl t z HZ.out).1
            have ht0 : (0 : Int) ≤ (t : Int) := by omega
            have hu0 : (0 : Int) ≤ (u : Int) := by omega
            clear hcells hR
            by_cases hlt3 : (u : Int) < z.1
            · have hm := Mem.load ((dk.out.below (below_alloc (Below.refl _ _) (.cells #[.bool true, .int .i64 ((t : Int) + 1), .int .i64 (u : Int)] 23))).mem) true ((t : Int) + 1) (u : Int)
              have hE := cp.out.loadE true ((t : Int) + 1) (u : Int)
              have hW := cp.out.loadW true ((t : Int) + 1) (u : Int)
              have HE := Lib.hid hE
              have HW := Lib.hid hW
              clear hE hW
              generalize S.loadE true ((t : Int) + 1) (u : Int) = le at *
              generalize S.loadW true ((t : Int) + 1) (u : Int) = wd at *
              have HM := Lib.hid hm
              clear hm
              go_wp2_with fail
              refine HM.out.mono ?_
              rintro e w8 ⟨rfl, b8⟩
              have D2 := Lib.hid ((dk.out.below (below_alloc (Below.refl _ _) (.cells #[.bool true, .int .i64 ((t : Int) + 1), .int .i64 (u : Int)] 23))).below b8)
              have P2 := Lib.hid ((Box.new wr #[.bool true, .int .i64 ((t : Int) + 1), .int .i64 (u : Int)]).below b8)
              obtain ⟨lp, hp, fp⟩ := P2.out.see
              have X2 := Lib.hid (Box.new w8 #[.bool wd.p, .int .i64 wd.a, .int .i64 wd.n])
              have D3 := Lib.hid (D2.out.below (below_alloc (Below.refl _ _) (.cells #[.bool wd.p, .int .i64 wd.a, .int .i64 wd.n] 23)))
              obtain ⟨q1, q2, hR2⟩ := D3.out.ref
              have hC := rload_any hR2 true ((t : Int) + 1) (u : Int)
              rw [HE.out, HW.out] at hC
              have HC := Lib.hid hC
              clear hC hR2 c0 c1 c3 c4 c5 hN hgf b8 HM
              go_wp2_with fail
              refine HC.out.mono ?_
              rintro e w9 ⟨rfl, b9⟩
              have D4 := Lib.hid (D3.out.below b9)
              have X4 := Lib.hid (X2.out.below b9)
              clear D2 D3 P2 X2 lp hp fp HC b9 dk
              obtain ⟨lq, hq, fq⟩ := X4.out.see
              go_wp2
              go_roundw
              case rel => exact ⟨u + 1, by omega, by go_num, Lib.hid (D4.out.below (by repeat (first | exact Below.refl _ _ | apply below_alloc)))⟩
              case measure => simp [intOf]; omega
            · go_wp2
              go_roundw
              case rel => exact ⟨t + 1, by omega, by go_num, dk⟩
              case measure => simp [intOf]; omega
        · obtain rfl : t = R.bl.length := by omega
          go_wp2
          go_ret
          exact ⟨rfl, dq.out.z⟩

set_option maxRecDepth 100000 in
theorem memDoes_walk (W : World) (room : Int) (l : List Ac) (A : Option Addr) (c : Nat) (hm : l.length ≤ maxLen) (hr : InA W A l) :
    Calls Try.prog 8 #[.int .i64 room, .slice A l.length c] W fun e W' => e = .returned (.bool true) ∧ Below W.heap.size W W' := by
  cases hs : smallB l
  · have HR := Lib.hid hr
    have HM := Lib.hid hm
    clear hr hm
    go_enter Try.func8, Try.ntmps8
    go_wp2_with fail
    refine (works_any _).mono ?_
    rintro e w1 ⟨rfl, b1⟩
    have hc := small_any w1 l A c HM.out (does_inA HR.out b1)
    rw [hs] at hc
    have CS := Lib.hid hc
    clear hc
    go_wp2_with fail
    refine (CS.out).mono ?_
    rintro e w2 ⟨rfl, b2⟩
    have z2 : Below W.heap.size W w2 := b1.trans (b2.mono b1.size)
    clear CS b1 b2
    go_wp2
    go_ret
    exact ⟨rfl, z2⟩
  · exact memDoes_in W room l A c hm hr hs

end Go.Proofs.Ytkgiddpeaebdfaa
