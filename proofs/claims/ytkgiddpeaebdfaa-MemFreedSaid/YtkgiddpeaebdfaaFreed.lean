/- MemFreed: what is freed is so for good. The walk of the law. -/
import Derived.Test.YtkgiddpeaebdfaaW12
namespace Go.Proofs.Ytkgiddpeaebdfaa
open Go.RowKit

def fbk (n : Int) : Bk := ⟨List.replicate n.toNat Wd.zero, List.replicate n.toNat false, false⟩
def frS1 (room n : Int) : Me := ⟨room, n, 1, [fbk n]⟩
def frS2 (room : Int) : Me := ⟨room, 0, 0, [Bk.none]⟩
def frS3 (room n : Int) : Me := ⟨room, n, 1, [Bk.none, fbk n]⟩
def frM (room n more : Int) : Int := min (max more 0) (room - n)
def frS4 (room n more : Int) : Me := (frS3 room n).alloc (frM room n more)

section
variable {room n more : Int}
theorem frNew (h0 : 0 ≤ n) (h1 : n ≤ room) (h2 : room ≤ 1000) : Me.new room = ⟨room, 0, 0, []⟩ := by simp [Me.new]; omega
theorem fr_e1 (h1 : room ≤ 1000) (h2 : 0 ≤ n) (h3 : n ≤ room) : (Me.new room).allocE n = 0 := by rw [frNew h2 h3 h1]; simp [Me.allocE]; omega
theorem fr_1 (h1 : room ≤ 1000) (h2 : 0 ≤ n) (h3 : n ≤ room) : (Me.new room).alloc n = frS1 room n := by rw [Me.alloc, if_pos (fr_e1 h1 h2 h3), frNew h2 h3 h1]; simp [frS1, fbk]
theorem fr_w1 (h1 : room ≤ 1000) (h2 : 0 ≤ n) (h3 : n ≤ room) : (Me.new room).allocW n = ⟨true, 1, 0⟩ := by rw [Me.allocW, if_pos (fr_e1 h1 h2 h3), frNew h2 h3 h1]; simp
theorem fr_e2 (_h2 : 0 ≤ n) : (frS1 room n).freeE true 1 0 = 0 := by simp [Me.freeE, Me.blockE, frS1, Me.at, fbk]
theorem fr_2 (h2 : 0 ≤ n) : (frS1 room n).free true 1 0 = frS2 room := by rw [Me.free, if_pos (fr_e2 h2)]; simp [frS1, frS2, Me.at, fbk]; omega
theorem fr_e3 : (frS2 room).loadE true 1 0 = 12 := by simp [Me.loadE, Me.pieceE, Me.blockE, frS2, Me.at, Bk.none]
theorem fr_w3 : (frS2 room).loadW true 1 0 = ⟨false, 0, 0⟩ := by rw [Me.loadW, fr_e3, if_neg (by decide)]; rfl
theorem fr_e4 (h2 : 0 ≤ n) (h3 : n ≤ room) : (frS2 room).allocE n = 0 := by simp [frS2, Me.allocE]; omega
theorem fr_4 (h2 : 0 ≤ n) (h3 : n ≤ room) : (frS2 room).alloc n = frS3 room n := by rw [Me.alloc, if_pos (fr_e4 h2 h3)]; simp [frS2, frS3, fbk]
theorem fr_w4 (h2 : 0 ≤ n) (h3 : n ≤ room) : (frS2 room).allocW n = ⟨true, 2, 0⟩ := by rw [Me.allocW, if_pos (fr_e4 h2 h3)]; simp [frS2]
theorem fr_b : (frS3 room n).blockE true 1 = 12 := by simp [Me.blockE, frS3, Me.at, Bk.none]
theorem fr_pc (k : Int) : (frS3 room n).pieceE true 1 0 k = 12 := by simp [Me.pieceE, fr_b]
theorem fr_e5 : (frS3 room n).pieceE true 1 0 1 = 12 := fr_pc 1
theorem fr_5 {a : Bool} {b c : Int} : (frS3 room n).store true 1 0 ⟨a, b, c⟩ = frS3 room n := by rw [Me.store, fr_e5, if_neg (by decide)]
theorem fr_e6 : (frS3 room n).freeE true 1 0 = 12 := by simp [Me.freeE, fr_b]
theorem fr_6 : (frS3 room n).free true 1 0 = frS3 room n := by rw [Me.free, fr_e6, if_neg (by decide)]
theorem fr_e7 : (frS3 room n).clearE true 1 0 0 = 12 := by rw [Me.clearE, if_neg (by decide), fr_pc]
theorem fr_7 : (frS3 room n).clear true 1 0 0 = frS3 room n := by rw [Me.clear, fr_e7, if_neg (by decide)]
theorem fr_e8 {a : Bool} {b c : Int} : (frS3 room n).copyE true 1 0 a b c 0 = 12 := by simp [Me.copyE, Me.loadsE, fr_pc]
theorem fr_8 {a : Bool} {b c : Int} : (frS3 room n).copy true 1 0 a b c 0 = frS3 room n := by rw [Me.copy, fr_e8, if_neg (by decide)]
theorem fr_e9 (_h2 : 0 ≤ n) (h3 : n ≤ room) : (frS3 room n).allocE (room - n + 1) = 10 := by simp [Me.allocE, frS3]; omega
theorem fr_9 (h2 : 0 ≤ n) (h3 : n ≤ room) : (frS3 room n).alloc (room - n + 1) = frS3 room n := by rw [Me.alloc, fr_e9 h2 h3, if_neg (by decide)]
theorem fr_w9 (h2 : 0 ≤ n) (h3 : n ≤ room) : (frS3 room n).allocW (room - n + 1) = ⟨false, 0, 0⟩ := by rw [Me.allocW, fr_e9 h2 h3, if_neg (by decide)]; rfl
theorem fr_e10 (_h2 : 0 ≤ n) (h3 : n ≤ room) : (frS3 room n).allocE (frM room n more) = 0 := by simp [Me.allocE, frS3, frM]; omega
theorem fr_10 (_h2 : 0 ≤ n) (_h3 : n ≤ room) : (frS3 room n).alloc (frM room n more) = frS4 room n more := rfl
theorem fr_w10 (h2 : 0 ≤ n) (h3 : n ≤ room) : (frS3 room n).allocW (frM room n more) = ⟨true, 3, 0⟩ := by rw [Me.allocW, if_pos (fr_e10 h2 h3)]; simp [frS3]
theorem fr_11 : ((frS4 room n more).loadE true 1 0 == 0) = false := by
  have : (frS4 room n more).loadE true 1 0 = 12 := by
    have hb : (frS4 room n more).blockE true 1 = 12 := by
      rw [frS4, Me.alloc]
      split
      · simp [Me.blockE, frS3, Me.at, Bk.none]
      · exact fr_b
    simp [Me.loadE, Me.pieceE, hb]
  rw [this]; rfl
theorem frK (_h2 : 0 ≤ n) (_h3 : n ≤ room) (more : Int) : min (max more 0) (room - n) = frM room n more := rfl
end

set_option maxRecDepth 100000 in
set_option maxHeartbeats 1000000 in
theorem memFreed_out (room n : Int) (w : Wd) (more : Int) (W : World) (h : room < 0 ∨ 1000 < room ∨ n < 0 ∨ room < n) :
    Calls Try.prog 10 #[.int .i64 room, .int .i64 n, .agg #[.bool w.p, .int .i64 w.a, .int .i64 w.n], .int .i64 more] W fun e W' => e = .returned (.bool true) ∧ Below W.heap.size W W' := by
  have C1 := Lib.hid (works_any (W.alloc (.cells #[.bool w.p, .int .i64 w.a, .int .i64 w.n] 23)))
  have H := Lib.hid h
  clear h
  go_enter Try.func10, Try.ntmps10
  go_wp2_with fail
  refine C1.out.mono ?_
  rintro e w1 ⟨rfl, b1⟩
  go_wp2_with fail
  all_goals first
    | (exfalso; have := H.out; omega)
    | (go_ret; exact ⟨rfl, stepB (allocB (Below.refl _ _) (Nat.le_refl _) _) (Nat.le_refl _) b1⟩)

set_option maxRecDepth 100000 in
set_option maxHeartbeats 2000000 in
theorem memFreed_in (room n : Int) (w : Wd) (more : Int) (W : World) (h0 : 0 ≤ room) (h1 : room ≤ 1000) (h2 : 0 ≤ n) (h3 : n ≤ room) :
    Calls Try.prog 10 #[.int .i64 room, .int .i64 n, .agg #[.bool w.p, .int .i64 w.a, .int .i64 w.n], .int .i64 more] W fun e W' => e = .returned (.bool true) ∧ Below W.heap.size W W' := by
  have more0 := frK h2 h3 more
  go_enter Try.func10, Try.ntmps10
  go_wp2_with fail
  refine (works_any _).mono ?_
  rintro e w1 ⟨rfl, b1⟩
  have z1 : Below W.heap.size W w1 := stepB (by repeat (first | exact Below.refl _ _ | (refine allocB ?_ (Nat.le_refl _) _) | apply Below.drew | (refine drewNB ?_ _))) (Nat.le_refl _) b1
  have bw_1 : Hid (Box w1 W.heap.size #[.bool w.p, .int .i64 w.a, .int .i64 w.n]) := Lib.hid (Box.below (by repeat (first | exact Box.newAt (by simp; done) | exact Box.newAt rfl | apply Box.alloc | apply Box.drew | apply Box.drewN)) b1)
  obtain ⟨lbw, hbw, fbw⟩ := bw_1.out.see
  go_wp2_with fail
  refine (Mem.new _ room).mono ?_
  rintro e w2 ⟨rfl, m2, b2, _⟩
  have ubw := lbw
  have z2 : Below W.heap.size W w2 := stepB (by repeat (first | exact z1 | (refine allocB ?_ (Nat.le_refl _) _) | apply Below.drew | (refine drewNB ?_ _))) (Nat.le_refl _) b2
  have bw_2 : Hid (Box w2 W.heap.size #[.bool w.p, .int .i64 w.a, .int .i64 w.n]) := Lib.hid (Box.below (by repeat (first | exact Box.newAt (by simp; done) | exact bw_1.out | exact Box.newAt rfl | apply Box.alloc | apply Box.drew | apply Box.drewN)) b2)
  clear bw_1 lbw hbw fbw
  obtain ⟨lbw, hbw, fbw⟩ := bw_2.out.see
  have nbw_3 : ¬ (fun k => k = w1.heap.size) W.heap.size := fun h => by have := m2.low _ h; omega
  go_wp2_with fail
  refine (Mem.makeX (by repeat (first | exact m2 | apply Mem.alloc | apply Mem.drew | apply Mem.drewN)) (by simp [Me.new]) true 1 0 0 (frS1 room n) (fr_w1 h1 h2 h3) (fr_e1 h1 h2 h3) (fr_1 h1 h2 h3)).mono ?_
  rintro e w3 ⟨rfl, ⟨F3, m3, q3⟩, k3⟩
  have z3 : Below W.heap.size W w3 := keptB (fun k h => by have := (m2.low k h).1; have := z1.size; omega) (by repeat (first | exact z2 | (refine allocB ?_ (Nat.le_refl _) _) | apply Below.drew | (refine drewNB ?_ _))) (Nat.le_refl _) k3
  have bw_3 : Hid (Box w3 W.heap.size #[.bool w.p, .int .i64 w.a, .int .i64 w.n]) := Lib.hid (Box.kept (by repeat (first | exact Box.newAt (by simp; done) | exact bw_2.out | exact Box.newAt rfl | apply Box.alloc | apply Box.drew | apply Box.drewN)) k3 nbw_3)
  have nbw_3x : ¬ F3 W.heap.size := fun h => (q3 _ h).elim nbw_3 (fun q => by first | (have := lbw; (try simp at q); omega) | (simp at q; omega))
  clear bw_2 lbw hbw fbw
  obtain ⟨lbw, hbw, fbw⟩ := bw_3.out.see
  have np_4 : ¬ F3 w3.heap.size := fun h => Nat.lt_irrefl _ (m3.low _ h).2
  go_wp2_with fail
  refine (Mem.freeX (by repeat (first | exact m3 | apply Mem.alloc | apply Mem.drew | apply Mem.drewN)) 0 (frS2 room) (fr_2 h2) (fr_e2 h2)).mono ?_
  rintro e w4 ⟨rfl, m4, k4⟩
  have z4 : Below W.heap.size W w4 := keptB (fun k h => by have := (m3.low k h).1; have := z1.size; omega) (by repeat (first | exact z3 | (refine allocB ?_ (Nat.le_refl _) _) | apply Below.drew | (refine drewNB ?_ _))) (Nat.le_refl _) k4
  have bw_4 : Hid (Box w4 W.heap.size #[.bool w.p, .int .i64 w.a, .int .i64 w.n]) := Lib.hid (Box.kept (by repeat (first | exact Box.newAt (by simp; done) | exact bw_3.out | exact Box.newAt rfl | apply Box.alloc | apply Box.drew | apply Box.drewN)) k4 nbw_3x)
  clear bw_3 lbw hbw fbw
  obtain ⟨lbw, hbw, fbw⟩ := bw_4.out.see
  have p_4 : Hid (Box w4 w3.heap.size #[.bool true, .int .i64 1, .int .i64 0]) := Lib.hid (Box.kept (by repeat (first | exact Box.newAt (by simp; done) | exact Box.newAt rfl | apply Box.alloc | apply Box.drew | apply Box.drewN)) k4 np_4)
  obtain ⟨lp, hp, fp⟩ := p_4.out.see
  go_wp2_with fail
  refine (Mem.words (by repeat (first | exact m4 | apply Mem.alloc | apply Mem.drew | apply Mem.drewN))).mono ?_
  rintro e w5 ⟨rfl, b5⟩
  have z5 : Below W.heap.size W w5 := stepB (by repeat (first | exact z4 | (refine allocB ?_ (Nat.le_refl _) _) | apply Below.drew | (refine drewNB ?_ _))) (Nat.le_refl _) b5
  have m5 := Mem.below (by repeat (first | exact m4 | apply Mem.alloc | apply Mem.drew | apply Mem.drewN)) b5
  have bw_5 : Hid (Box w5 W.heap.size #[.bool w.p, .int .i64 w.a, .int .i64 w.n]) := Lib.hid (Box.below (by repeat (first | exact Box.newAt (by simp; done) | exact bw_4.out | exact Box.newAt rfl | apply Box.alloc | apply Box.drew | apply Box.drewN)) b5)
  clear bw_4 lbw hbw fbw
  obtain ⟨lbw, hbw, fbw⟩ := bw_5.out.see
  have p_5 : Hid (Box w5 w3.heap.size #[.bool true, .int .i64 1, .int .i64 0]) := Lib.hid (Box.below (by repeat (first | exact Box.newAt (by simp; done) | exact p_4.out | exact Box.newAt rfl | apply Box.alloc | apply Box.drew | apply Box.drewN)) b5)
  clear p_4 lp hp fp
  obtain ⟨lp, hp, fp⟩ := p_5.out.see
  go_wp2_with fail
  refine (Mem.live (by repeat (first | exact m5 | apply Mem.alloc | apply Mem.drew | apply Mem.drewN))).mono ?_
  rintro e w6 ⟨rfl, b6⟩
  have z6 : Below W.heap.size W w6 := stepB (by repeat (first | exact z5 | (refine allocB ?_ (Nat.le_refl _) _) | apply Below.drew | (refine drewNB ?_ _))) (Nat.le_refl _) b6
  have m6 := Mem.below (by repeat (first | exact m5 | apply Mem.alloc | apply Mem.drew | apply Mem.drewN)) b6
  have bw_6 : Hid (Box w6 W.heap.size #[.bool w.p, .int .i64 w.a, .int .i64 w.n]) := Lib.hid (Box.below (by repeat (first | exact Box.newAt (by simp; done) | exact bw_5.out | exact Box.newAt rfl | apply Box.alloc | apply Box.drew | apply Box.drewN)) b6)
  clear bw_5 lbw hbw fbw
  obtain ⟨lbw, hbw, fbw⟩ := bw_6.out.see
  have p_6 : Hid (Box w6 w3.heap.size #[.bool true, .int .i64 1, .int .i64 0]) := Lib.hid (Box.below (by repeat (first | exact Box.newAt (by simp; done) | exact p_5.out | exact Box.newAt rfl | apply Box.alloc | apply Box.drew | apply Box.drewN)) b6)
  clear p_5 lp hp fp
  obtain ⟨lp, hp, fp⟩ := p_6.out.see
  go_wp2_with fail
  refine (Mem.loadX (by repeat (first | exact m6 | apply Mem.alloc | apply Mem.drew | apply Mem.drewN)) false 0 0 12 fr_w3 fr_e3).mono ?_
  rintro e w7 ⟨rfl, b7⟩
  have z7 : Below W.heap.size W w7 := stepB (by repeat (first | exact z6 | (refine allocB ?_ (Nat.le_refl _) _) | apply Below.drew | (refine drewNB ?_ _))) (Nat.le_refl _) b7
  have m7 := Mem.below (by repeat (first | exact m6 | apply Mem.alloc | apply Mem.drew | apply Mem.drewN)) b7
  have bw_7 : Hid (Box w7 W.heap.size #[.bool w.p, .int .i64 w.a, .int .i64 w.n]) := Lib.hid (Box.below (by repeat (first | exact Box.newAt (by simp; done) | exact bw_6.out | exact Box.newAt rfl | apply Box.alloc | apply Box.drew | apply Box.drewN)) b7)
  clear bw_6 lbw hbw fbw
  obtain ⟨lbw, hbw, fbw⟩ := bw_7.out.see
  have p_7 : Hid (Box w7 w3.heap.size #[.bool true, .int .i64 1, .int .i64 0]) := Lib.hid (Box.below (by repeat (first | exact Box.newAt (by simp; done) | exact p_6.out | exact Box.newAt rfl | apply Box.alloc | apply Box.drew | apply Box.drewN)) b7)
  clear p_6 lp hp fp
  obtain ⟨lp, hp, fp⟩ := p_7.out.see
  have nx_8 : ¬ F3 w7.heap.size := fun h => Nat.lt_irrefl _ (m7.low _ h).2
  go_wp2_with fail
  refine (Mem.makeX (by repeat (first | exact m7 | apply Mem.alloc | apply Mem.drew | apply Mem.drewN)) (by simp [frS2]) true 2 0 0 (frS3 room n) (fr_w4 h2 h3) (fr_e4 h2 h3) (fr_4 h2 h3)).mono ?_
  rintro e w8 ⟨rfl, ⟨F8, m8, q8⟩, k8⟩
  have z8 : Below W.heap.size W w8 := keptB (fun k h => by have := (m7.low k h).1; have := z1.size; omega) (by repeat (first | exact z7 | (refine allocB ?_ (Nat.le_refl _) _) | apply Below.drew | (refine drewNB ?_ _))) (Nat.le_refl _) k8
  have bw_8 : Hid (Box w8 W.heap.size #[.bool w.p, .int .i64 w.a, .int .i64 w.n]) := Lib.hid (Box.kept (by repeat (first | exact Box.newAt (by simp; done) | exact bw_7.out | exact Box.newAt rfl | apply Box.alloc | apply Box.drew | apply Box.drewN)) k8 nbw_3x)
  have nbw_8x : ¬ F8 W.heap.size := fun h => (q8 _ h).elim nbw_3x (fun q => by first | (have := lbw; (try simp at q); omega) | (simp at q; omega))
  clear bw_7 lbw hbw fbw
  obtain ⟨lbw, hbw, fbw⟩ := bw_8.out.see
  have p_8 : Hid (Box w8 w3.heap.size #[.bool true, .int .i64 1, .int .i64 0]) := Lib.hid (Box.kept (by repeat (first | exact Box.newAt (by simp; done) | exact p_7.out | exact Box.newAt rfl | apply Box.alloc | apply Box.drew | apply Box.drewN)) k8 np_4)
  have np_8x : ¬ F8 w3.heap.size := fun h => (q8 _ h).elim np_4 (fun q => by first | (have := lp; (try simp at q); omega) | (simp at q; omega))
  clear p_7 lp hp fp
  obtain ⟨lp, hp, fp⟩ := p_8.out.see
  have x_8 : Hid (Box w8 w7.heap.size #[.bool false, .int .i64 0, .int .i64 0]) := Lib.hid (Box.kept (by repeat (first | exact Box.newAt (by simp; done) | exact Box.newAt rfl | apply Box.alloc | apply Box.drew | apply Box.drewN)) k8 nx_8)
  have nx_8x : ¬ F8 w7.heap.size := fun h => (q8 _ h).elim nx_8 (fun q => by first | (have := lx; (try simp at q); omega) | (simp at q; omega))
  obtain ⟨lx, hx, fx⟩ := x_8.out.see
  clear x_8 lx hx fx
  have nq_9 : ¬ F8 w8.heap.size := fun h => Nat.lt_irrefl _ (m8.low _ h).2
  go_wp2_with fail
  refine (Mem.storeX (by repeat (first | exact m8 | apply Mem.alloc | apply Mem.drew | apply Mem.drewN)) 12 (frS3 room n) fr_5 fr_e5).mono ?_
  rintro e w9 ⟨rfl, m9, k9⟩
  have z9 : Below W.heap.size W w9 := keptB (fun k h => by have := (m8.low k h).1; have := z1.size; omega) (by repeat (first | exact z8 | (refine allocB ?_ (Nat.le_refl _) _) | apply Below.drew | (refine drewNB ?_ _))) (Nat.le_refl _) k9
  have bw_9 : Hid (Box w9 W.heap.size #[.bool w.p, .int .i64 w.a, .int .i64 w.n]) := Lib.hid (Box.kept (by repeat (first | exact Box.newAt (by simp; done) | exact bw_8.out | exact Box.newAt rfl | apply Box.alloc | apply Box.drew | apply Box.drewN)) k9 nbw_8x)
  clear bw_8 lbw hbw fbw
  obtain ⟨lbw, hbw, fbw⟩ := bw_9.out.see
  have p_9 : Hid (Box w9 w3.heap.size #[.bool true, .int .i64 1, .int .i64 0]) := Lib.hid (Box.kept (by repeat (first | exact Box.newAt (by simp; done) | exact p_8.out | exact Box.newAt rfl | apply Box.alloc | apply Box.drew | apply Box.drewN)) k9 np_8x)
  clear p_8 lp hp fp
  obtain ⟨lp, hp, fp⟩ := p_9.out.see
  have q_9 : Hid (Box w9 w8.heap.size #[.bool true, .int .i64 2, .int .i64 0]) := Lib.hid (Box.kept (by repeat (first | exact Box.newAt (by simp; done) | exact Box.newAt rfl | apply Box.alloc | apply Box.drew | apply Box.drewN)) k9 nq_9)
  obtain ⟨lq, hq, fq⟩ := q_9.out.see
  clear bw_9 lbw hbw fbw
  go_wp2_with fail
  refine (Mem.freeX (by repeat (first | exact m9 | apply Mem.alloc | apply Mem.drew | apply Mem.drewN)) 12 (frS3 room n) fr_6 fr_e6).mono ?_
  rintro e w10 ⟨rfl, m10, k10⟩
  have z10 : Below W.heap.size W w10 := keptB (fun k h => by have := (m9.low k h).1; have := z1.size; omega) (by repeat (first | exact z9 | (refine allocB ?_ (Nat.le_refl _) _) | apply Below.drew | (refine drewNB ?_ _))) (Nat.le_refl _) k10
  have p_10 : Hid (Box w10 w3.heap.size #[.bool true, .int .i64 1, .int .i64 0]) := Lib.hid (Box.kept (by repeat (first | exact Box.newAt (by simp; done) | exact p_9.out | exact Box.newAt rfl | apply Box.alloc | apply Box.drew | apply Box.drewN)) k10 np_8x)
  clear p_9 lp hp fp
  obtain ⟨lp, hp, fp⟩ := p_10.out.see
  have q_10 : Hid (Box w10 w8.heap.size #[.bool true, .int .i64 2, .int .i64 0]) := Lib.hid (Box.kept (by repeat (first | exact Box.newAt (by simp; done) | exact q_9.out | exact Box.newAt rfl | apply Box.alloc | apply Box.drew | apply Box.drewN)) k10 nq_9)
  clear q_9 lq hq fq
  obtain ⟨lq, hq, fq⟩ := q_10.out.see
  go_wp2_with fail
  refine (Mem.clearX (by repeat (first | exact m10 | apply Mem.alloc | apply Mem.drew | apply Mem.drewN)) 12 (frS3 room n) fr_7 fr_e7).mono ?_
  rintro e w11 ⟨rfl, m11, k11⟩
  have z11 : Below W.heap.size W w11 := keptB (fun k h => by have := (m10.low k h).1; have := z1.size; omega) (by repeat (first | exact z10 | (refine allocB ?_ (Nat.le_refl _) _) | apply Below.drew | (refine drewNB ?_ _))) (Nat.le_refl _) k11
  have p_11 : Hid (Box w11 w3.heap.size #[.bool true, .int .i64 1, .int .i64 0]) := Lib.hid (Box.kept (by repeat (first | exact Box.newAt (by simp; done) | exact p_10.out | exact Box.newAt rfl | apply Box.alloc | apply Box.drew | apply Box.drewN)) k11 np_8x)
  clear p_10 lp hp fp
  obtain ⟨lp, hp, fp⟩ := p_11.out.see
  have q_11 : Hid (Box w11 w8.heap.size #[.bool true, .int .i64 2, .int .i64 0]) := Lib.hid (Box.kept (by repeat (first | exact Box.newAt (by simp; done) | exact q_10.out | exact Box.newAt rfl | apply Box.alloc | apply Box.drew | apply Box.drewN)) k11 nq_9)
  clear q_10 lq hq fq
  obtain ⟨lq, hq, fq⟩ := q_11.out.see
  go_wp2_with fail
  refine (Mem.copyX (by repeat (first | exact m11 | apply Mem.alloc | apply Mem.drew | apply Mem.drewN)) 12 (frS3 room n) fr_8 fr_e8).mono ?_
  rintro e w12 ⟨rfl, m12, k12⟩
  have z12 : Below W.heap.size W w12 := keptB (fun k h => by have := (m11.low k h).1; have := z1.size; omega) (by repeat (first | exact z11 | (refine allocB ?_ (Nat.le_refl _) _) | apply Below.drew | (refine drewNB ?_ _))) (Nat.le_refl _) k12
  have p_12 : Hid (Box w12 w3.heap.size #[.bool true, .int .i64 1, .int .i64 0]) := Lib.hid (Box.kept (by repeat (first | exact Box.newAt (by simp; done) | exact p_11.out | exact Box.newAt rfl | apply Box.alloc | apply Box.drew | apply Box.drewN)) k12 np_8x)
  clear p_11 lp hp fp
  obtain ⟨lp, hp, fp⟩ := p_12.out.see
  have q_12 : Hid (Box w12 w8.heap.size #[.bool true, .int .i64 2, .int .i64 0]) := Lib.hid (Box.kept (by repeat (first | exact Box.newAt (by simp; done) | exact q_11.out | exact Box.newAt rfl | apply Box.alloc | apply Box.drew | apply Box.drewN)) k12 nq_9)
  clear q_11 lq hq fq
  obtain ⟨lq, hq, fq⟩ := q_12.out.see
  clear q_12 lq hq fq
  go_wp2_with fail
  refine (Mem.makeX (by repeat (first | exact m12 | apply Mem.alloc | apply Mem.drew | apply Mem.drewN)) (by simp [frS3]) false 0 0 10 (frS3 room n) (fr_w9 h2 h3) (fr_e9 h2 h3) (fr_9 h2 h3)).mono ?_
  rintro e w13 ⟨rfl, ⟨F13, m13, q13⟩, k13⟩
  have z13 : Below W.heap.size W w13 := keptB (fun k h => by have := (m12.low k h).1; have := z1.size; omega) (by repeat (first | exact z12 | (refine allocB ?_ (Nat.le_refl _) _) | apply Below.drew | (refine drewNB ?_ _))) (Nat.le_refl _) k13
  have p_13 : Hid (Box w13 w3.heap.size #[.bool true, .int .i64 1, .int .i64 0]) := Lib.hid (Box.kept (by repeat (first | exact Box.newAt (by simp; done) | exact p_12.out | exact Box.newAt rfl | apply Box.alloc | apply Box.drew | apply Box.drewN)) k13 np_8x)
  have np_13x : ¬ F13 w3.heap.size := fun h => (q13 _ h).elim np_8x (fun q => by first | (have := lp; (try simp at q); omega) | (simp at q; omega))
  clear p_12 lp hp fp
  obtain ⟨lp, hp, fp⟩ := p_13.out.see
  go_wp2_with fail
  refine (Mem.makeX (by repeat (first | exact m13 | apply Mem.alloc | apply Mem.drew | apply Mem.drewN)) (by simp [frS3]) true 3 0 0 (frS4 room n more) (fr_w10 h2 h3) (fr_e10 h2 h3) (fr_10 h2 h3)).mono ?_
  rintro e w14 ⟨rfl, ⟨F14, m14, q14⟩, k14⟩
  have z14 : Below W.heap.size W w14 := keptB (fun k h => by have := (m13.low k h).1; have := z1.size; omega) (by repeat (first | exact z13 | (refine allocB ?_ (Nat.le_refl _) _) | apply Below.drew | (refine drewNB ?_ _))) (Nat.le_refl _) k14
  have p_14 : Hid (Box w14 w3.heap.size #[.bool true, .int .i64 1, .int .i64 0]) := Lib.hid (Box.kept (by repeat (first | exact Box.newAt (by simp; done) | exact p_13.out | exact Box.newAt rfl | apply Box.alloc | apply Box.drew | apply Box.drewN)) k14 np_13x)
  have np_14x : ¬ F14 w3.heap.size := fun h => (q14 _ h).elim np_13x (fun q => by first | (have := lp; (try simp at q); omega) | (simp at q; omega))
  clear p_13 lp hp fp
  obtain ⟨lp, hp, fp⟩ := p_14.out.see
  go_wp2_with fail
  refine (Mem.isSetX (by repeat (first | exact m14 | apply Mem.alloc | apply Mem.drew | apply Mem.drewN)) false fr_11).mono ?_
  rintro e w15 ⟨rfl, b15⟩
  have z15 : Below W.heap.size W w15 := stepB (by repeat (first | exact z14 | (refine allocB ?_ (Nat.le_refl _) _) | apply Below.drew | (refine drewNB ?_ _))) (Nat.le_refl _) b15
  have m15 := Mem.below (by repeat (first | exact m14 | apply Mem.alloc | apply Mem.drew | apply Mem.drewN)) b15
  have p_15 : Hid (Box w15 w3.heap.size #[.bool true, .int .i64 1, .int .i64 0]) := Lib.hid (Box.below (by repeat (first | exact Box.newAt (by simp; done) | exact p_14.out | exact Box.newAt rfl | apply Box.alloc | apply Box.drew | apply Box.drewN)) b15)
  clear p_14 lp hp fp
  obtain ⟨lp, hp, fp⟩ := p_15.out.see
  go_wp2
  go_ret
  exact ⟨rfl, by repeat (first | exact z15 | (refine allocB ?_ (Nat.le_refl _) _) | apply Below.drew | (refine drewNB ?_ _))⟩

theorem memFreed_walk (W : World) (room n : Int) (w : Wd) (more : Int) :
    Calls Try.prog 10 #[.int .i64 room, .int .i64 n, .agg #[.bool w.p, .int .i64 w.a, .int .i64 w.n], .int .i64 more] W fun e W' => e = .returned (.bool true) ∧ Below W.heap.size W W' := by
  by_cases h : room < 0 ∨ 1000 < room ∨ n < 0 ∨ room < n
  · exact memFreed_out room n w more W h
  · exact memFreed_in room n w more W (by omega) (by omega) (by omega) (by omega)

end Go.Proofs.Ytkgiddpeaebdfaa
