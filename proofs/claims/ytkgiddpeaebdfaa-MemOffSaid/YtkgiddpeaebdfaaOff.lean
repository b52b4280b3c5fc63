/- MemOff: an address so many words on is just what the document says; a number has none. The walk of the law. -/
import Derived.Test.YtkgiddpeaebdfaaW9
namespace Go.Proofs.Ytkgiddpeaebdfaa
open Go.RowKit

set_option maxHeartbeats 1000000 in
theorem memOff_walk (b : Bool) (a n k : Int) (W : World) :
    Calls Try.prog 3 #[.agg #[.bool b, .int .i64 a, .int .i64 n], .int .i64 k] W fun e W' => e = .returned (.bool true) ∧ Below W.heap.size W W' := by
  have B0 := Lib.hid (Box.new W #[.bool b, .int .i64 a, .int .i64 n])
  have C1 := Lib.hid (works_any (W.alloc (.cells #[.bool b, .int .i64 a, .int .i64 n] 23)))
  cases b
  · go_enter Try.func3, Try.ntmps3
    go_wp2_with fail
    refine C1.out.mono ?_
    rintro e w1 ⟨rfl, b1⟩
    have B1 := Lib.hid (B0.out.below b1)
    obtain ⟨lp, hp, _⟩ := B1.out.see
    go_wp2_with fail
    refine (off_no _ _ _ _).mono ?_
    rintro e w2 ⟨rfl, b2⟩
    have B2 := Lib.hid (B1.out.below b2)
    clear lp hp B0 B1 C1
    obtain ⟨lp, hp, _⟩ := B2.out.see
    go_wp2
    go_ret
    exact ⟨rfl, allocB (stepB (stepB (allocB (Below.refl _ _) (Nat.le_refl _) _) (Nat.le_refl _) b1) (Nat.le_refl _) b2) (Nat.le_refl _) _⟩
  · go_enter Try.func3, Try.ntmps3
    go_wp2_with fail
    refine C1.out.mono ?_
    rintro e w1 ⟨rfl, b1⟩
    have B1 := Lib.hid (B0.out.below b1)
    obtain ⟨lp, hp, _⟩ := B1.out.see
    go_wp2_with fail
    refine (off_yes _ _ _ _).mono ?_
    rintro e w2 ⟨rfl, b2⟩
    have B2 := Lib.hid (B1.out.below b2)
    clear lp hp B0 B1 C1
    obtain ⟨lp, hp, _⟩ := B2.out.see
    go_wp2
    go_ret
    exact ⟨rfl, allocB (stepB (stepB (allocB (Below.refl _ _) (Nat.le_refl _) _) (Nat.le_refl _) b1) (Nat.le_refl _) b2) (Nat.le_refl _) _⟩

end Go.Proofs.Ytkgiddpeaebdfaa
