/- MemApart: two allocations have no word in common: whatever is stored in the one, the other one is as it was. The walk of the law. -/
import Derived.Test.YtkgiddpeaebdfaaW9
namespace Go.Proofs.Ytkgiddpeaebdfaa
open Go.RowKit

def zbk (n : Int) : Bk := ⟨List.replicate n.toNat Wd.zero, List.replicate n.toNat false, false⟩
def apS1 (n : Int) : Me := ⟨500, n, 1, [zbk n]⟩
def apS2 (n k : Int) : Me := ⟨500, n + k, 2, [zbk n, zbk k]⟩
def apB (n at_ : Int) (w : Wd) : Bk := ⟨(zbk n).ws.set at_.toNat w, (zbk n).st.set at_.toNat true, false⟩
def apS3 (n k at_ : Int) (w : Wd) : Me := ⟨500, n + k, 2, [apB n at_ w, zbk k]⟩
def apS5 (n k at_ : Int) (w v : Wd) : Me := ⟨500, n + k, 2, [apB n at_ w, apB k at_ v]⟩
def apS7 (n k at_ : Int) (w _v : Wd) : Me := ⟨500, n + k - ((apB k at_ _v).ws.length : Int), 1, [apB n at_ w, Bk.none]⟩

theorem wrap_at {n at_ : Int} (h5 : 0 ≤ at_) (h6 : at_ < n ∧ n ≤ 100) : wrap64 (0 + at_) = at_ := by unfold wrap64; omega
section
variable {n k at_ : Int} {w v : Wd}
theorem new500 : Me.new 500 = ⟨500, 0, 0, []⟩ := by simp [Me.new]; decide
theorem ap_e1 (h1 : 1 ≤ n) (h2 : n ≤ 100) : (Me.new 500).allocE n = 0 := by rw [new500]; simp [Me.allocE]; omega
theorem ap_1 (h1 : 1 ≤ n) (h2 : n ≤ 100) : (Me.new 500).alloc n = apS1 n := by rw [Me.alloc, if_pos (ap_e1 h1 h2), new500]; simp [apS1, zbk]
theorem ap_w1 (h1 : 1 ≤ n) (h2 : n ≤ 100) : (Me.new 500).allocW n = ⟨true, 1, 0⟩ := by rw [Me.allocW, if_pos (ap_e1 h1 h2), new500]; simp
theorem ap_e2 (h1 : 1 ≤ n) (h2 : n ≤ 100) (h3 : 1 ≤ k) (h4 : k ≤ 100) : (apS1 n).allocE k = 0 := by simp [apS1, Me.allocE]; omega
theorem ap_2 (h1 : 1 ≤ n) (h2 : n ≤ 100) (h3 : 1 ≤ k) (h4 : k ≤ 100) : (apS1 n).alloc k = apS2 n k := by rw [Me.alloc, if_pos (ap_e2 h1 h2 h3 h4)]; simp [apS1, apS2, zbk]
theorem ap_w2 (h1 : 1 ≤ n) (h2 : n ≤ 100) (h3 : 1 ≤ k) (h4 : k ≤ 100) : (apS1 n).allocW k = ⟨true, 2, 0⟩ := by rw [Me.allocW, if_pos (ap_e2 h1 h2 h3 h4)]; simp [apS1]
theorem zbk_ws (n : Int) : (zbk n).ws.length = n.toNat := by simp [zbk]
theorem apB_ws (n at_ : Int) (w : Wd) : (apB n at_ w).ws.length = n.toNat := by simp [apB, zbk]
theorem apB_get (h5 : 0 ≤ at_) (h6 : at_ < n) : (apB n at_ w).ws.getD at_.toNat Wd.zero = w ∧ (apB n at_ w).st.getD at_.toNat false = true := by
  have : at_.toNat < n.toNat := by omega
  simp [apB, zbk, List.getD_eq_getElem?_getD, this]
theorem ap_p3 (h1 : 1 ≤ n) (_h3 : 1 ≤ k) (h5 : 0 ≤ at_) (h6 : at_ < n ∧ n ≤ 100) (_h7 : at_ < k) : (apS2 n k).pieceE true 1 at_ 1 = 0 := by
  simp [Me.pieceE, Me.blockE, apS2, Me.at, zbk]; omega
theorem ap_3 (h1 : 1 ≤ n) (h3 : 1 ≤ k) (h5 : 0 ≤ at_) (h6 : at_ < n ∧ n ≤ 100) (h7 : at_ < k) : (apS2 n k).store true 1 at_ ⟨w.p, w.a, w.n⟩ = apS3 n k at_ w := by
  rw [Me.store, if_pos (ap_p3 h1 h3 h5 h6 h7)]; simp [apS2, apS3, Me.setAt, Me.at, apB]
theorem ap_4 (_h1 : 1 ≤ n) (h3 : 1 ≤ k) (h5 : 0 ≤ at_) (_h6 : at_ < n ∧ n ≤ 100) (h7 : at_ < k) : ((apS3 n k at_ w).loadE true 2 at_ == 0) = false := by
  have : (apS3 n k at_ w).loadE true 2 at_ = 14 := by
    have hp : (apS3 n k at_ w).pieceE true 2 at_ 1 = 0 := by simp [Me.pieceE, Me.blockE, apS3, Me.at, zbk]; omega
    rw [Me.loadE, if_neg (by simp [hp])]
    simp [apS3, Me.at, zbk, List.getD_eq_getElem?_getD, List.getElem?_replicate]
    split <;> rfl
  rw [this]; rfl
theorem ap_p5 (_h1 : 1 ≤ n) (h3 : 1 ≤ k) (h5 : 0 ≤ at_) (_h6 : at_ < n ∧ n ≤ 100) (h7 : at_ < k) : (apS3 n k at_ w).pieceE true 2 at_ 1 = 0 := by
  simp [Me.pieceE, Me.blockE, apS3, Me.at, zbk]; omega
theorem ap_5 (h1 : 1 ≤ n) (h3 : 1 ≤ k) (h5 : 0 ≤ at_) (h6 : at_ < n ∧ n ≤ 100) (h7 : at_ < k) : (apS3 n k at_ w).store true 2 at_ ⟨v.p, v.a, v.n⟩ = apS5 n k at_ w v := by
  rw [Me.store, if_pos (ap_p5 h1 h3 h5 h6 h7)]; simp [apS3, apS5, Me.setAt, Me.at, apB]
theorem ap_p6 (h1 : 1 ≤ n) (_h3 : 1 ≤ k) (h5 : 0 ≤ at_) (h6 : at_ < n ∧ n ≤ 100) (_h7 : at_ < k) : (apS5 n k at_ w v).loadE true 1 at_ = 0 := by
  have hp : (apS5 n k at_ w v).pieceE true 1 at_ 1 = 0 := by
    have := apB_ws n at_ w
    have f : (apB n at_ w).freed = false := rfl
    simp [Me.pieceE, Me.blockE, apS5, Me.at, this, f]; omega
  rw [Me.loadE, if_neg (by simp [hp]), if_pos]
  exact (apB_get h5 h6.1).2
theorem ap_6 (h1 : 1 ≤ n) (h3 : 1 ≤ k) (h5 : 0 ≤ at_) (h6 : at_ < n ∧ n ≤ 100) (h7 : at_ < k) : (apS5 n k at_ w v).loadW true 1 at_ = ⟨w.p, w.a, w.n⟩ := by
  rw [Me.loadW, if_pos (ap_p6 h1 h3 h5 h6 h7)]
  exact (apB_get h5 h6.1).1
theorem ap_p7 (_h1 : 1 ≤ n) (_h3 : 1 ≤ k) (_h5 : 0 ≤ at_) (_h6 : at_ < n ∧ n ≤ 100) (_h7 : at_ < k) : (apS5 n k at_ w v).freeE true 2 0 = 0 := by
  have f : (apB k at_ v).freed = false := rfl
  simp [Me.freeE, Me.blockE, apS5, Me.at, f]
theorem ap_7 (h1 : 1 ≤ n) (h3 : 1 ≤ k) (h5 : 0 ≤ at_) (h6 : at_ < n ∧ n ≤ 100) (h7 : at_ < k) : (apS5 n k at_ w v).free true 2 0 = apS7 n k at_ w v := by
  rw [Me.free, if_pos (ap_p7 h1 h3 h5 h6 h7)]; simp [apS5, apS7, Me.at]
theorem ap_p8 (h1 : 1 ≤ n) (_h3 : 1 ≤ k) (h5 : 0 ≤ at_) (h6 : at_ < n ∧ n ≤ 100) (_h7 : at_ < k) : (apS7 n k at_ w v).loadE true 1 at_ = 0 := by
  have hp : (apS7 n k at_ w v).pieceE true 1 at_ 1 = 0 := by
    have := apB_ws n at_ w
    have f : (apB n at_ w).freed = false := rfl
    simp [Me.pieceE, Me.blockE, apS7, Me.at, this, f]; omega
  rw [Me.loadE, if_neg (by simp [hp]), if_pos]
  exact (apB_get h5 h6.1).2
theorem ap_8 (h1 : 1 ≤ n) (h3 : 1 ≤ k) (h5 : 0 ≤ at_) (h6 : at_ < n ∧ n ≤ 100) (h7 : at_ < k) : (apS7 n k at_ w v).loadW true 1 at_ = ⟨w.p, w.a, w.n⟩ := by
  rw [Me.loadW, if_pos (ap_p8 h1 h3 h5 h6 h7)]
  exact (apB_get h5 h6.1).1
end

set_option maxHeartbeats 1000000 in
theorem memApart_out (n k at_ : Int) (w v : Wd) (W : World) (h : n < 1 ∨ 100 < n ∨ k < 1 ∨ 100 < k ∨ at_ < 0 ∨ n ≤ at_ ∨ k ≤ at_) :
    Calls Try.prog 6 #[.int .i64 n, .int .i64 k, .int .i64 at_, .agg #[.bool w.p, .int .i64 w.a, .int .i64 w.n], .agg #[.bool v.p, .int .i64 v.a, .int .i64 v.n]] W fun e W' => e = .returned (.bool true) ∧ Below W.heap.size W W' := by
  have C1 := Lib.hid (works_any ((W.alloc (.cells #[.bool w.p, .int .i64 w.a, .int .i64 w.n] 23)).alloc (.cells #[.bool v.p, .int .i64 v.a, .int .i64 v.n] 23)))
  have H := Lib.hid h
  clear h
  go_enter Try.func6, Try.ntmps6
  go_wp2_with fail
  refine C1.out.mono ?_
  rintro e w1 ⟨rfl, b1⟩
  go_wp2_with fail
  all_goals first
    | (exfalso; have := H.out; omega)
    | (go_ret; exact ⟨rfl, stepB (allocB (allocB (Below.refl _ _) (Nat.le_refl _) _) (Nat.le_refl _) _) (Nat.le_refl _) b1⟩)

set_option maxHeartbeats 2000000 in
theorem memApart_in (n k at_ : Int) (w v : Wd) (W : World) (h1 : 1 ≤ n) (h2 : n ≤ 100) (h3 : 1 ≤ k) (h4 : k ≤ 100) (h5 : 0 ≤ at_) (h60 : at_ < n) (h7 : at_ < k) :
    Calls Try.prog 6 #[.int .i64 n, .int .i64 k, .int .i64 at_, .agg #[.bool w.p, .int .i64 w.a, .int .i64 w.n], .agg #[.bool v.p, .int .i64 v.a, .int .i64 v.n]] W fun e W' => e = .returned (.bool true) ∧ Below W.heap.size W W' := by
  have h6 : at_ < n ∧ n ≤ 100 := ⟨h60, h2⟩
  go_enter Try.func6, Try.ntmps6
  go_wp2_with fail
  refine (works_any _).mono ?_
  rintro e w1 ⟨rfl, b1⟩
  have z1 : Below W.heap.size W w1 := stepB (by repeat (first | exact Below.refl _ _ | (refine allocB ?_ (Nat.le_refl _) _) | apply Below.drew | (refine drewNB ?_ _))) (Nat.le_refl _) b1
  have bw_1 : Hid (Box w1 W.heap.size #[.bool w.p, .int .i64 w.a, .int .i64 w.n]) := Lib.hid (Box.below (by repeat (first | exact Box.newAt (by simp; done) | exact Box.newAt rfl | apply Box.alloc | apply Box.drew | apply Box.drewN)) b1)
  obtain ⟨lbw, hbw, fbw⟩ := bw_1.out.see
  have bv_1 : Hid (Box w1 (W.heap.size + 1) #[.bool v.p, .int .i64 v.a, .int .i64 v.n]) := Lib.hid (Box.below (by repeat (first | exact Box.newAt (by simp; done) | exact Box.newAt rfl | apply Box.alloc | apply Box.drew | apply Box.drewN)) b1)
  obtain ⟨lbv, hbv, fbv⟩ := bv_1.out.see
  go_wp2_with fail
  refine (Mem.new _ 500).mono ?_
  rintro e w2 ⟨rfl, m2, b2, _⟩
  have ubw := lbw
  have ubv := lbv
  have z2 : Below W.heap.size W w2 := stepB (by repeat (first | exact z1 | (refine allocB ?_ (Nat.le_refl _) _) | apply Below.drew | (refine drewNB ?_ _))) (Nat.le_refl _) b2
  have bw_2 : Hid (Box w2 W.heap.size #[.bool w.p, .int .i64 w.a, .int .i64 w.n]) := Lib.hid (Box.below (by repeat (first | exact Box.newAt (by simp; done) | exact bw_1.out | exact Box.newAt rfl | apply Box.alloc | apply Box.drew | apply Box.drewN)) b2)
  clear bw_1 lbw hbw fbw
  obtain ⟨lbw, hbw, fbw⟩ := bw_2.out.see
  have bv_2 : Hid (Box w2 (W.heap.size + 1) #[.bool v.p, .int .i64 v.a, .int .i64 v.n]) := Lib.hid (Box.below (by repeat (first | exact Box.newAt (by simp; done) | exact bv_1.out | exact Box.newAt rfl | apply Box.alloc | apply Box.drew | apply Box.drewN)) b2)
  clear bv_1 lbv hbv fbv
  obtain ⟨lbv, hbv, fbv⟩ := bv_2.out.see
  have nbw_3 : ¬ (fun k => k = w1.heap.size) W.heap.size := fun h => by have := m2.low _ h; omega
  have nbv_3 : ¬ (fun k => k = w1.heap.size) (W.heap.size + 1) := fun h => by have := m2.low _ h; omega
  go_wp2_with fail
  refine (Mem.makeX (by repeat (first | exact m2 | apply Mem.alloc | apply Mem.drew | apply Mem.drewN)) (by decide) true 1 0 0 (apS1 n) (ap_w1 h1 h2) (ap_e1 h1 h2) (ap_1 h1 h2)).mono ?_
  rintro e w3 ⟨rfl, ⟨F3, m3, q3⟩, k3⟩
  have z3 : Below W.heap.size W w3 := keptB (fun k h => by have := (m2.low k h).1; have := z1.size; omega) (by repeat (first | exact z2 | (refine allocB ?_ (Nat.le_refl _) _) | apply Below.drew | (refine drewNB ?_ _))) (Nat.le_refl _) k3
  have bw_3 : Hid (Box w3 W.heap.size #[.bool w.p, .int .i64 w.a, .int .i64 w.n]) := Lib.hid (Box.kept (by repeat (first | exact Box.newAt (by simp; done) | exact bw_2.out | exact Box.newAt rfl | apply Box.alloc | apply Box.drew | apply Box.drewN)) k3 nbw_3)
  have nbw_3x : ¬ F3 W.heap.size := fun h => (q3 _ h).elim nbw_3 (fun q => by first | (have := lbw; (try simp at q); omega) | (simp at q; omega))
  clear bw_2 lbw hbw fbw
  obtain ⟨lbw, hbw, fbw⟩ := bw_3.out.see
  have bv_3 : Hid (Box w3 (W.heap.size + 1) #[.bool v.p, .int .i64 v.a, .int .i64 v.n]) := Lib.hid (Box.kept (by repeat (first | exact Box.newAt (by simp; done) | exact bv_2.out | exact Box.newAt rfl | apply Box.alloc | apply Box.drew | apply Box.drewN)) k3 nbv_3)
  have nbv_3x : ¬ F3 (W.heap.size + 1) := fun h => (q3 _ h).elim nbv_3 (fun q => by first | (have := lbv; (try simp at q); omega) | (simp at q; omega))
  clear bv_2 lbv hbv fbv
  obtain ⟨lbv, hbv, fbv⟩ := bv_3.out.see
  have np_4 : ¬ F3 w3.heap.size := fun h => Nat.lt_irrefl _ (m3.low _ h).2
  go_wp2_with fail
  refine (Mem.makeX (by repeat (first | exact m3 | apply Mem.alloc | apply Mem.drew | apply Mem.drewN)) (by simp [apS1]) true 2 0 0 (apS2 n k) (ap_w2 h1 h2 h3 h4) (ap_e2 h1 h2 h3 h4) (ap_2 h1 h2 h3 h4)).mono ?_
  rintro e w4 ⟨rfl, ⟨F4, m4, q4⟩, k4⟩
  have z4 : Below W.heap.size W w4 := keptB (fun k h => by have := (m3.low k h).1; have := z1.size; omega) (by repeat (first | exact z3 | (refine allocB ?_ (Nat.le_refl _) _) | apply Below.drew | (refine drewNB ?_ _))) (Nat.le_refl _) k4
  have bw_4 : Hid (Box w4 W.heap.size #[.bool w.p, .int .i64 w.a, .int .i64 w.n]) := Lib.hid (Box.kept (by repeat (first | exact Box.newAt (by simp; done) | exact bw_3.out | exact Box.newAt rfl | apply Box.alloc | apply Box.drew | apply Box.drewN)) k4 nbw_3x)
  have nbw_4x : ¬ F4 W.heap.size := fun h => (q4 _ h).elim nbw_3x (fun q => by first | (have := lbw; (try simp at q); omega) | (simp at q; omega))
  clear bw_3 lbw hbw fbw
  obtain ⟨lbw, hbw, fbw⟩ := bw_4.out.see
  have bv_4 : Hid (Box w4 (W.heap.size + 1) #[.bool v.p, .int .i64 v.a, .int .i64 v.n]) := Lib.hid (Box.kept (by repeat (first | exact Box.newAt (by simp; done) | exact bv_3.out | exact Box.newAt rfl | apply Box.alloc | apply Box.drew | apply Box.drewN)) k4 nbv_3x)
  have nbv_4x : ¬ F4 (W.heap.size + 1) := fun h => (q4 _ h).elim nbv_3x (fun q => by first | (have := lbv; (try simp at q); omega) | (simp at q; omega))
  clear bv_3 lbv hbv fbv
  obtain ⟨lbv, hbv, fbv⟩ := bv_4.out.see
  have p_4 : Hid (Box w4 w3.heap.size #[.bool true, .int .i64 1, .int .i64 0]) := Lib.hid (Box.kept (by repeat (first | exact Box.newAt (by simp; done) | exact Box.newAt rfl | apply Box.alloc | apply Box.drew | apply Box.drewN)) k4 np_4)
  have np_4x : ¬ F4 w3.heap.size := fun h => (q4 _ h).elim np_4 (fun q => by first | (have := lp; (try simp at q); omega) | (simp at q; omega))
  obtain ⟨lp, hp, fp⟩ := p_4.out.see
  have nq_5 : ¬ F4 w4.heap.size := fun h => Nat.lt_irrefl _ (m4.low _ h).2
  go_wp2_with fail
  refine (off_yesX _ at_ (wrap_at h5 h6)).mono ?_
  rintro e w5 ⟨rfl, b5⟩
  have z5 : Below W.heap.size W w5 := stepB (by repeat (first | exact z4 | (refine allocB ?_ (Nat.le_refl _) _) | apply Below.drew | (refine drewNB ?_ _))) (Nat.le_refl _) b5
  have m5 := Mem.below (by repeat (first | exact m4 | apply Mem.alloc | apply Mem.drew | apply Mem.drewN)) b5
  have bw_5 : Hid (Box w5 W.heap.size #[.bool w.p, .int .i64 w.a, .int .i64 w.n]) := Lib.hid (Box.below (by repeat (first | exact Box.newAt (by simp; done) | exact bw_4.out | exact Box.newAt rfl | apply Box.alloc | apply Box.drew | apply Box.drewN)) b5)
  clear bw_4 lbw hbw fbw
  obtain ⟨lbw, hbw, fbw⟩ := bw_5.out.see
  have bv_5 : Hid (Box w5 (W.heap.size + 1) #[.bool v.p, .int .i64 v.a, .int .i64 v.n]) := Lib.hid (Box.below (by repeat (first | exact Box.newAt (by simp; done) | exact bv_4.out | exact Box.newAt rfl | apply Box.alloc | apply Box.drew | apply Box.drewN)) b5)
  clear bv_4 lbv hbv fbv
  obtain ⟨lbv, hbv, fbv⟩ := bv_5.out.see
  have p_5 : Hid (Box w5 w3.heap.size #[.bool true, .int .i64 1, .int .i64 0]) := Lib.hid (Box.below (by repeat (first | exact Box.newAt (by simp; done) | exact p_4.out | exact Box.newAt rfl | apply Box.alloc | apply Box.drew | apply Box.drewN)) b5)
  clear p_4 lp hp fp
  obtain ⟨lp, hp, fp⟩ := p_5.out.see
  have q_5 : Hid (Box w5 w4.heap.size #[.bool true, .int .i64 2, .int .i64 0]) := Lib.hid (Box.below (by repeat (first | exact Box.newAt (by simp; done) | exact Box.newAt rfl | apply Box.alloc | apply Box.drew | apply Box.drewN)) b5)
  obtain ⟨lq, hq, fq⟩ := q_5.out.see
  have nx_6 : ¬ F4 w5.heap.size := fun h => Nat.lt_irrefl _ (m5.low _ h).2
  go_wp2_with fail
  refine (off_yesX _ at_ (wrap_at h5 h6)).mono ?_
  rintro e w6 ⟨rfl, b6⟩
  have z6 : Below W.heap.size W w6 := stepB (by repeat (first | exact z5 | (refine allocB ?_ (Nat.le_refl _) _) | apply Below.drew | (refine drewNB ?_ _))) (Nat.le_refl _) b6
  have m6 := Mem.below (by repeat (first | exact m5 | apply Mem.alloc | apply Mem.drew | apply Mem.drewN)) b6
  have bw_6 : Hid (Box w6 W.heap.size #[.bool w.p, .int .i64 w.a, .int .i64 w.n]) := Lib.hid (Box.below (by repeat (first | exact Box.newAt (by simp; done) | exact bw_5.out | exact Box.newAt rfl | apply Box.alloc | apply Box.drew | apply Box.drewN)) b6)
  clear bw_5 lbw hbw fbw
  obtain ⟨lbw, hbw, fbw⟩ := bw_6.out.see
  have bv_6 : Hid (Box w6 (W.heap.size + 1) #[.bool v.p, .int .i64 v.a, .int .i64 v.n]) := Lib.hid (Box.below (by repeat (first | exact Box.newAt (by simp; done) | exact bv_5.out | exact Box.newAt rfl | apply Box.alloc | apply Box.drew | apply Box.drewN)) b6)
  clear bv_5 lbv hbv fbv
  obtain ⟨lbv, hbv, fbv⟩ := bv_6.out.see
  have p_6 : Hid (Box w6 w3.heap.size #[.bool true, .int .i64 1, .int .i64 0]) := Lib.hid (Box.below (by repeat (first | exact Box.newAt (by simp; done) | exact p_5.out | exact Box.newAt rfl | apply Box.alloc | apply Box.drew | apply Box.drewN)) b6)
  clear p_5 lp hp fp
  obtain ⟨lp, hp, fp⟩ := p_6.out.see
  have q_6 : Hid (Box w6 w4.heap.size #[.bool true, .int .i64 2, .int .i64 0]) := Lib.hid (Box.below (by repeat (first | exact Box.newAt (by simp; done) | exact q_5.out | exact Box.newAt rfl | apply Box.alloc | apply Box.drew | apply Box.drewN)) b6)
  clear q_5 lq hq fq
  obtain ⟨lq, hq, fq⟩ := q_6.out.see
  have x_6 : Hid (Box w6 w5.heap.size #[.bool true, .int .i64 1, .int .i64 at_]) := Lib.hid (Box.below (by repeat (first | exact Box.newAt (by simp; done) | exact Box.newAt rfl | apply Box.alloc | apply Box.drew | apply Box.drewN)) b6)
  obtain ⟨lx, hx, fx⟩ := x_6.out.see
  have ny_7 : ¬ F4 w6.heap.size := fun h => Nat.lt_irrefl _ (m6.low _ h).2
  go_wp2_with fail
  refine (Mem.storeX (by repeat (first | exact m6 | apply Mem.alloc | apply Mem.drew | apply Mem.drewN)) 0 (apS3 n k at_ w) (ap_3 h1 h3 h5 h6 h7) (ap_p3 h1 h3 h5 h6 h7)).mono ?_
  rintro e w7 ⟨rfl, m7, k7⟩
  have z7 : Below W.heap.size W w7 := keptB (fun k h => by have := (m6.low k h).1; have := z1.size; omega) (by repeat (first | exact z6 | (refine allocB ?_ (Nat.le_refl _) _) | apply Below.drew | (refine drewNB ?_ _))) (Nat.le_refl _) k7
  have bw_7 : Hid (Box w7 W.heap.size #[.bool w.p, .int .i64 w.a, .int .i64 w.n]) := Lib.hid (Box.kept (by repeat (first | exact Box.newAt (by simp; done) | exact bw_6.out | exact Box.newAt rfl | apply Box.alloc | apply Box.drew | apply Box.drewN)) k7 nbw_4x)
  clear bw_6 lbw hbw fbw
  obtain ⟨lbw, hbw, fbw⟩ := bw_7.out.see
  have bv_7 : Hid (Box w7 (W.heap.size + 1) #[.bool v.p, .int .i64 v.a, .int .i64 v.n]) := Lib.hid (Box.kept (by repeat (first | exact Box.newAt (by simp; done) | exact bv_6.out | exact Box.newAt rfl | apply Box.alloc | apply Box.drew | apply Box.drewN)) k7 nbv_4x)
  clear bv_6 lbv hbv fbv
  obtain ⟨lbv, hbv, fbv⟩ := bv_7.out.see
  have p_7 : Hid (Box w7 w3.heap.size #[.bool true, .int .i64 1, .int .i64 0]) := Lib.hid (Box.kept (by repeat (first | exact Box.newAt (by simp; done) | exact p_6.out | exact Box.newAt rfl | apply Box.alloc | apply Box.drew | apply Box.drewN)) k7 np_4x)
  clear p_6 lp hp fp
  obtain ⟨lp, hp, fp⟩ := p_7.out.see
  have q_7 : Hid (Box w7 w4.heap.size #[.bool true, .int .i64 2, .int .i64 0]) := Lib.hid (Box.kept (by repeat (first | exact Box.newAt (by simp; done) | exact q_6.out | exact Box.newAt rfl | apply Box.alloc | apply Box.drew | apply Box.drewN)) k7 nq_5)
  clear q_6 lq hq fq
  obtain ⟨lq, hq, fq⟩ := q_7.out.see
  have x_7 : Hid (Box w7 w5.heap.size #[.bool true, .int .i64 1, .int .i64 at_]) := Lib.hid (Box.kept (by repeat (first | exact Box.newAt (by simp; done) | exact x_6.out | exact Box.newAt rfl | apply Box.alloc | apply Box.drew | apply Box.drewN)) k7 nx_6)
  clear x_6 lx hx fx
  obtain ⟨lx, hx, fx⟩ := x_7.out.see
  have y_7 : Hid (Box w7 w6.heap.size #[.bool true, .int .i64 2, .int .i64 at_]) := Lib.hid (Box.kept (by repeat (first | exact Box.newAt (by simp; done) | exact Box.newAt rfl | apply Box.alloc | apply Box.drew | apply Box.drewN)) k7 ny_7)
  obtain ⟨ly, hy, fy⟩ := y_7.out.see
  go_wp2_with fail
  refine (Mem.isSetX (by repeat (first | exact m7 | apply Mem.alloc | apply Mem.drew | apply Mem.drewN)) false (ap_4 h1 h3 h5 h6 h7)).mono ?_
  rintro e w8 ⟨rfl, b8⟩
  have z8 : Below W.heap.size W w8 := stepB (by repeat (first | exact z7 | (refine allocB ?_ (Nat.le_refl _) _) | apply Below.drew | (refine drewNB ?_ _))) (Nat.le_refl _) b8
  have m8 := Mem.below (by repeat (first | exact m7 | apply Mem.alloc | apply Mem.drew | apply Mem.drewN)) b8
  have bw_8 : Hid (Box w8 W.heap.size #[.bool w.p, .int .i64 w.a, .int .i64 w.n]) := Lib.hid (Box.below (by repeat (first | exact Box.newAt (by simp; done) | exact bw_7.out | exact Box.newAt rfl | apply Box.alloc | apply Box.drew | apply Box.drewN)) b8)
  clear bw_7 lbw hbw fbw
  obtain ⟨lbw, hbw, fbw⟩ := bw_8.out.see
  have bv_8 : Hid (Box w8 (W.heap.size + 1) #[.bool v.p, .int .i64 v.a, .int .i64 v.n]) := Lib.hid (Box.below (by repeat (first | exact Box.newAt (by simp; done) | exact bv_7.out | exact Box.newAt rfl | apply Box.alloc | apply Box.drew | apply Box.drewN)) b8)
  clear bv_7 lbv hbv fbv
  obtain ⟨lbv, hbv, fbv⟩ := bv_8.out.see
  have p_8 : Hid (Box w8 w3.heap.size #[.bool true, .int .i64 1, .int .i64 0]) := Lib.hid (Box.below (by repeat (first | exact Box.newAt (by simp; done) | exact p_7.out | exact Box.newAt rfl | apply Box.alloc | apply Box.drew | apply Box.drewN)) b8)
  clear p_7 lp hp fp
  obtain ⟨lp, hp, fp⟩ := p_8.out.see
  have q_8 : Hid (Box w8 w4.heap.size #[.bool true, .int .i64 2, .int .i64 0]) := Lib.hid (Box.below (by repeat (first | exact Box.newAt (by simp; done) | exact q_7.out | exact Box.newAt rfl | apply Box.alloc | apply Box.drew | apply Box.drewN)) b8)
  clear q_7 lq hq fq
  obtain ⟨lq, hq, fq⟩ := q_8.out.see
  have x_8 : Hid (Box w8 w5.heap.size #[.bool true, .int .i64 1, .int .i64 at_]) := Lib.hid (Box.below (by repeat (first | exact Box.newAt (by simp; done) | exact x_7.out | exact Box.newAt rfl | apply Box.alloc | apply Box.drew | apply Box.drewN)) b8)
  clear x_7 lx hx fx
  obtain ⟨lx, hx, fx⟩ := x_8.out.see
  have y_8 : Hid (Box w8 w6.heap.size #[.bool true, .int .i64 2, .int .i64 at_]) := Lib.hid (Box.below (by repeat (first | exact Box.newAt (by simp; done) | exact y_7.out | exact Box.newAt rfl | apply Box.alloc | apply Box.drew | apply Box.drewN)) b8)
  clear y_7 ly hy fy
  obtain ⟨ly, hy, fy⟩ := y_8.out.see
  go_wp2_with fail
  refine (Mem.storeX (by repeat (first | exact m8 | apply Mem.alloc | apply Mem.drew | apply Mem.drewN)) 0 (apS5 n k at_ w v) (ap_5 h1 h3 h5 h6 h7) (ap_p5 h1 h3 h5 h6 h7)).mono ?_
  rintro e w9 ⟨rfl, m9, k9⟩
  have z9 : Below W.heap.size W w9 := keptB (fun k h => by have := (m8.low k h).1; have := z1.size; omega) (by repeat (first | exact z8 | (refine allocB ?_ (Nat.le_refl _) _) | apply Below.drew | (refine drewNB ?_ _))) (Nat.le_refl _) k9
  have bw_9 : Hid (Box w9 W.heap.size #[.bool w.p, .int .i64 w.a, .int .i64 w.n]) := Lib.hid (Box.kept (by repeat (first | exact Box.newAt (by simp; done) | exact bw_8.out | exact Box.newAt rfl | apply Box.alloc | apply Box.drew | apply Box.drewN)) k9 nbw_4x)
  clear bw_8 lbw hbw fbw
  obtain ⟨lbw, hbw, fbw⟩ := bw_9.out.see
  have bv_9 : Hid (Box w9 (W.heap.size + 1) #[.bool v.p, .int .i64 v.a, .int .i64 v.n]) := Lib.hid (Box.kept (by repeat (first | exact Box.newAt (by simp; done) | exact bv_8.out | exact Box.newAt rfl | apply Box.alloc | apply Box.drew | apply Box.drewN)) k9 nbv_4x)
  clear bv_8 lbv hbv fbv
  obtain ⟨lbv, hbv, fbv⟩ := bv_9.out.see
  have p_9 : Hid (Box w9 w3.heap.size #[.bool true, .int .i64 1, .int .i64 0]) := Lib.hid (Box.kept (by repeat (first | exact Box.newAt (by simp; done) | exact p_8.out | exact Box.newAt rfl | apply Box.alloc | apply Box.drew | apply Box.drewN)) k9 np_4x)
  clear p_8 lp hp fp
  obtain ⟨lp, hp, fp⟩ := p_9.out.see
  have q_9 : Hid (Box w9 w4.heap.size #[.bool true, .int .i64 2, .int .i64 0]) := Lib.hid (Box.kept (by repeat (first | exact Box.newAt (by simp; done) | exact q_8.out | exact Box.newAt rfl | apply Box.alloc | apply Box.drew | apply Box.drewN)) k9 nq_5)
  clear q_8 lq hq fq
  obtain ⟨lq, hq, fq⟩ := q_9.out.see
  have x_9 : Hid (Box w9 w5.heap.size #[.bool true, .int .i64 1, .int .i64 at_]) := Lib.hid (Box.kept (by repeat (first | exact Box.newAt (by simp; done) | exact x_8.out | exact Box.newAt rfl | apply Box.alloc | apply Box.drew | apply Box.drewN)) k9 nx_6)
  clear x_8 lx hx fx
  obtain ⟨lx, hx, fx⟩ := x_9.out.see
  have y_9 : Hid (Box w9 w6.heap.size #[.bool true, .int .i64 2, .int .i64 at_]) := Lib.hid (Box.kept (by repeat (first | exact Box.newAt (by simp; done) | exact y_8.out | exact Box.newAt rfl | apply Box.alloc | apply Box.drew | apply Box.drewN)) k9 ny_7)
  clear y_8 ly hy fy
  obtain ⟨ly, hy, fy⟩ := y_9.out.see
  clear bv_9 lbv hbv fbv
  clear y_9 ly hy fy
  go_wp2_with fail
  refine (Mem.loadX (by repeat (first | exact m9 | apply Mem.alloc | apply Mem.drew | apply Mem.drewN)) w.p w.a w.n 0 (ap_6 h1 h3 h5 h6 h7) (ap_p6 h1 h3 h5 h6 h7)).mono ?_
  rintro e w10 ⟨rfl, b10⟩
  have z10 : Below W.heap.size W w10 := stepB (by repeat (first | exact z9 | (refine allocB ?_ (Nat.le_refl _) _) | apply Below.drew | (refine drewNB ?_ _))) (Nat.le_refl _) b10
  have m10 := Mem.below (by repeat (first | exact m9 | apply Mem.alloc | apply Mem.drew | apply Mem.drewN)) b10
  have bw_10 : Hid (Box w10 W.heap.size #[.bool w.p, .int .i64 w.a, .int .i64 w.n]) := Lib.hid (Box.below (by repeat (first | exact Box.newAt (by simp; done) | exact bw_9.out | exact Box.newAt rfl | apply Box.alloc | apply Box.drew | apply Box.drewN)) b10)
  clear bw_9 lbw hbw fbw
  obtain ⟨lbw, hbw, fbw⟩ := bw_10.out.see
  have p_10 : Hid (Box w10 w3.heap.size #[.bool true, .int .i64 1, .int .i64 0]) := Lib.hid (Box.below (by repeat (first | exact Box.newAt (by simp; done) | exact p_9.out | exact Box.newAt rfl | apply Box.alloc | apply Box.drew | apply Box.drewN)) b10)
  clear p_9 lp hp fp
  obtain ⟨lp, hp, fp⟩ := p_10.out.see
  have q_10 : Hid (Box w10 w4.heap.size #[.bool true, .int .i64 2, .int .i64 0]) := Lib.hid (Box.below (by repeat (first | exact Box.newAt (by simp; done) | exact q_9.out | exact Box.newAt rfl | apply Box.alloc | apply Box.drew | apply Box.drewN)) b10)
  clear q_9 lq hq fq
  obtain ⟨lq, hq, fq⟩ := q_10.out.see
  have x_10 : Hid (Box w10 w5.heap.size #[.bool true, .int .i64 1, .int .i64 at_]) := Lib.hid (Box.below (by repeat (first | exact Box.newAt (by simp; done) | exact x_9.out | exact Box.newAt rfl | apply Box.alloc | apply Box.drew | apply Box.drewN)) b10)
  clear x_9 lx hx fx
  obtain ⟨lx, hx, fx⟩ := x_10.out.see
  have na_11 : ¬ F4 w10.heap.size := fun h => Nat.lt_irrefl _ (m10.low _ h).2
  go_wp2_with fail
  refine (Mem.freeX (by repeat (first | exact m10 | apply Mem.alloc | apply Mem.drew | apply Mem.drewN)) 0 (apS7 n k at_ w v) (ap_7 h1 h3 h5 h6 h7) (ap_p7 h1 h3 h5 h6 h7)).mono ?_
  rintro e w11 ⟨rfl, m11, k11⟩
  have z11 : Below W.heap.size W w11 := keptB (fun k h => by have := (m10.low k h).1; have := z1.size; omega) (by repeat (first | exact z10 | (refine allocB ?_ (Nat.le_refl _) _) | apply Below.drew | (refine drewNB ?_ _))) (Nat.le_refl _) k11
  have bw_11 : Hid (Box w11 W.heap.size #[.bool w.p, .int .i64 w.a, .int .i64 w.n]) := Lib.hid (Box.kept (by repeat (first | exact Box.newAt (by simp; done) | exact bw_10.out | exact Box.newAt rfl | apply Box.alloc | apply Box.drew | apply Box.drewN)) k11 nbw_4x)
  clear bw_10 lbw hbw fbw
  obtain ⟨lbw, hbw, fbw⟩ := bw_11.out.see
  have p_11 : Hid (Box w11 w3.heap.size #[.bool true, .int .i64 1, .int .i64 0]) := Lib.hid (Box.kept (by repeat (first | exact Box.newAt (by simp; done) | exact p_10.out | exact Box.newAt rfl | apply Box.alloc | apply Box.drew | apply Box.drewN)) k11 np_4x)
  clear p_10 lp hp fp
  obtain ⟨lp, hp, fp⟩ := p_11.out.see
  have q_11 : Hid (Box w11 w4.heap.size #[.bool true, .int .i64 2, .int .i64 0]) := Lib.hid (Box.kept (by repeat (first | exact Box.newAt (by simp; done) | exact q_10.out | exact Box.newAt rfl | apply Box.alloc | apply Box.drew | apply Box.drewN)) k11 nq_5)
  clear q_10 lq hq fq
  obtain ⟨lq, hq, fq⟩ := q_11.out.see
  have x_11 : Hid (Box w11 w5.heap.size #[.bool true, .int .i64 1, .int .i64 at_]) := Lib.hid (Box.kept (by repeat (first | exact Box.newAt (by simp; done) | exact x_10.out | exact Box.newAt rfl | apply Box.alloc | apply Box.drew | apply Box.drewN)) k11 nx_6)
  clear x_10 lx hx fx
  obtain ⟨lx, hx, fx⟩ := x_11.out.see
  have a_11 : Hid (Box w11 w10.heap.size #[.bool w.p, .int .i64 w.a, .int .i64 w.n]) := Lib.hid (Box.kept (by repeat (first | exact Box.newAt (by simp; done) | exact Box.newAt rfl | apply Box.alloc | apply Box.drew | apply Box.drewN)) k11 na_11)
  obtain ⟨la, ha, fa⟩ := a_11.out.see
  go_wp2_with fail
  refine (Mem.loadX (by repeat (first | exact m11 | apply Mem.alloc | apply Mem.drew | apply Mem.drewN)) w.p w.a w.n 0 (ap_8 h1 h3 h5 h6 h7) (ap_p8 h1 h3 h5 h6 h7)).mono ?_
  rintro e w12 ⟨rfl, b12⟩
  have z12 : Below W.heap.size W w12 := stepB (by repeat (first | exact z11 | (refine allocB ?_ (Nat.le_refl _) _) | apply Below.drew | (refine drewNB ?_ _))) (Nat.le_refl _) b12
  have m12 := Mem.below (by repeat (first | exact m11 | apply Mem.alloc | apply Mem.drew | apply Mem.drewN)) b12
  have bw_12 : Hid (Box w12 W.heap.size #[.bool w.p, .int .i64 w.a, .int .i64 w.n]) := Lib.hid (Box.below (by repeat (first | exact Box.newAt (by simp; done) | exact bw_11.out | exact Box.newAt rfl | apply Box.alloc | apply Box.drew | apply Box.drewN)) b12)
  clear bw_11 lbw hbw fbw
  obtain ⟨lbw, hbw, fbw⟩ := bw_12.out.see
  have p_12 : Hid (Box w12 w3.heap.size #[.bool true, .int .i64 1, .int .i64 0]) := Lib.hid (Box.below (by repeat (first | exact Box.newAt (by simp; done) | exact p_11.out | exact Box.newAt rfl | apply Box.alloc | apply Box.drew | apply Box.drewN)) b12)
  clear p_11 lp hp fp
  obtain ⟨lp, hp, fp⟩ := p_12.out.see
  have q_12 : Hid (Box w12 w4.heap.size #[.bool true, .int .i64 2, .int .i64 0]) := Lib.hid (Box.below (by repeat (first | exact Box.newAt (by simp; done) | exact q_11.out | exact Box.newAt rfl | apply Box.alloc | apply Box.drew | apply Box.drewN)) b12)
  clear q_11 lq hq fq
  obtain ⟨lq, hq, fq⟩ := q_12.out.see
  have x_12 : Hid (Box w12 w5.heap.size #[.bool true, .int .i64 1, .int .i64 at_]) := Lib.hid (Box.below (by repeat (first | exact Box.newAt (by simp; done) | exact x_11.out | exact Box.newAt rfl | apply Box.alloc | apply Box.drew | apply Box.drewN)) b12)
  clear x_11 lx hx fx
  obtain ⟨lx, hx, fx⟩ := x_12.out.see
  have a_12 : Hid (Box w12 w10.heap.size #[.bool w.p, .int .i64 w.a, .int .i64 w.n]) := Lib.hid (Box.below (by repeat (first | exact Box.newAt (by simp; done) | exact a_11.out | exact Box.newAt rfl | apply Box.alloc | apply Box.drew | apply Box.drewN)) b12)
  clear a_11 la ha fa
  obtain ⟨la, ha, fa⟩ := a_12.out.see
  go_wp2
  go_ret
  exact ⟨rfl, by repeat (first | exact z12 | (refine allocB ?_ (Nat.le_refl _) _) | apply Below.drew | (refine drewNB ?_ _))⟩

theorem memApart_walk (W : World) (n k at_ : Int) (w v : Wd) :
    Calls Try.prog 6 #[.int .i64 n, .int .i64 k, .int .i64 at_, .agg #[.bool w.p, .int .i64 w.a, .int .i64 w.n], .agg #[.bool v.p, .int .i64 v.a, .int .i64 v.n]] W fun e W' => e = .returned (.bool true) ∧ Below W.heap.size W W' := by
  by_cases h : n < 1 ∨ 100 < n ∨ k < 1 ∨ 100 < k ∨ at_ < 0 ∨ n ≤ at_ ∨ k ≤ at_
  · exact memApart_out n k at_ w v W h
  · exact memApart_in n k at_ w v W (by omega) (by omega) (by omega) (by omega) (by omega) (by omega) (by omega)

end Go.Proofs.Ytkgiddpeaebdfaa
