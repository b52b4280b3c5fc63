/- 'small': are there few acts, and no count that is too great? -/
import Derived.Test.YtkgiddpeaebdfaaOpen
import Derived.LoopTactic
namespace Go.Proofs.Ytkgiddpeaebdfaa
open Go.RowKit

theorem act_see {W w : World} {b off : Nat} {l : List Ac} {t : Nat} {x : Ac} (hb : b < W.heap.size) (hbel : Below W.heap.size W w) (hc : ∀ i x, l[i]? = some x → AcOk x ∧ ∀ j, j < 8 → W.cell? ⟨b, off + i * 8 + j, none⟩ = x.cells[j]?) (hx : l[t]? = some x) :
    w.cell? ⟨b, off + t * 8, none⟩ = some (.int .i64 x.k) ∧ w.cell? ⟨b, off + t * 8 + 1, none⟩ = some (.int .i64 x.n) ∧ w.cell? ⟨b, off + t * 8 + 2, none⟩ = some (.bool x.p.p) ∧ w.cell? ⟨b, off + t * 8 + 3, none⟩ = some (.int .i64 x.p.a) ∧
      w.cell? ⟨b, off + t * 8 + 4, none⟩ = some (.int .i64 x.p.n) ∧ w.cell? ⟨b, off + t * 8 + 5, none⟩ = some (.bool x.q.p) ∧ w.cell? ⟨b, off + t * 8 + 6, none⟩ = some (.int .i64 x.q.a) ∧ w.cell? ⟨b, off + t * 8 + 7, none⟩ = some (.int .i64 x.q.n) ∧ b < w.heap.size := by
  have g : ∀ j, j < 8 → w.cell? ⟨b, off + t * 8 + j, none⟩ = x.cells[j]? := fun j hj => (hbel.cell (p := ⟨b, off + t * 8 + j, none⟩) hb).trans ((hc t x hx).2 j hj)
  exact ⟨g 0 (by omega), g 1 (by omega), g 2 (by omega), g 3 (by omega), g 4 (by omega), g 5 (by omega), g 6 (by omega), g 7 (by omega), Nat.lt_of_lt_of_le hb hbel.size⟩

def smallB (l : List Ac) : Bool := decide (l.length ≤ 40) && l.all fun x => decide (x.n ≤ 100)

theorem small_any (W : World) (l : List Ac) (A : Option Addr) (c : Nat) (hm : l.length ≤ maxLen) (hr : InA W A l) :
    Calls Try.prog 23 #[.slice A l.length c] W fun e W' => e = .returned (.bool (smallB l)) ∧ Below W.heap.size W W' := by
  have HR := Lib.hid hr
  clear hr
  unfold maxLen at hm
  by_cases h0 : 40 < l.length
  · have e : smallB l = false := by simp only [smallB]; rw [decide_eq_false (by omega)]; rfl
    rw [e]
    go_enter Try.func23, Try.ntmps23
    go_wp2
    go_ret
    exact ⟨rfl, Below.refl _ _⟩
  · have h1 : (l.length : Int) ≤ 40 := by omega
    go_enter Try.func23, Try.ntmps23
    go_wp2_with fail
    go_loopw [3] (fun i wr => ∃ t : Nat, t ≤ l.length ∧ i = .int .i64 t ∧ (∀ j x, j < t → l[j]? = some x → x.n ≤ 100) ∧ Below W.heap.size W wr) (fun i _ => l.length - (intOf i).toNat)
    case atStart => exact ⟨0, Nat.zero_le _, rfl, fun j _ hj => absurd hj (Nat.not_lt_zero _), Below.refl _ _⟩
    case round =>
      obtain ⟨t, ht, rfl, hp, z⟩ := hrel
      have HP := Lib.hid hp
      clear hp
      by_cases hlt : t < l.length
      · obtain ⟨ab, off, rfl, hab, hcells⟩ := HR.out (by omega)
        obtain ⟨x, hx⟩ : ∃ x, l[t]? = some x := ⟨_, List.getElem?_eq_getElem hlt⟩
        obtain ⟨y0, y1, y2, y3, y4, y5, y6, y7, y8⟩ := act_see hab z hcells hx
        have hti : (0 : Int) ≤ (t : Int) := by omega
        have htl : (t : Int) < (l.length : Int) := by omega
        have HX := Lib.hid hx
        clear hcells hx
        by_cases hn : x.n ≤ 100
        · go_wp2
          go_roundw
          case rel =>
            refine ⟨t + 1, by omega, by go_num, fun j x' hj hx' => ?_, z⟩
            by_cases e : j = t
            · subst e
              have := HX.out
              rw [this] at hx'
              injection hx' with hx'
              exact hx' ▸ hn
            · exact HP.out j x' (by omega) hx'
          case measure => simp [intOf]; omega
        · have e : smallB l = false := by
            simp only [smallB, Bool.and_eq_false_iff]
            refine .inr ?_
            rw [List.all_eq_false]
            exact ⟨x, List.mem_of_getElem? HX.out, by simpa using hn⟩
          have E := Lib.hid e
          clear e
          have hn2 : 100 < x.n := by omega
          go_wp2
          go_ret
          exact ⟨by rw [E.out]; rfl, z⟩
      · obtain rfl : t = l.length := by omega
        have e : smallB l = true := by
          simp only [smallB, Bool.and_eq_true, decide_eq_true_eq, List.all_eq_true]
          refine ⟨by omega, fun x hx => ?_⟩
          obtain ⟨j, hj, hjx⟩ := List.getElem_of_mem hx
          exact HP.out j x hj (by rw [List.getElem?_eq_getElem hj, hjx])
        have E := Lib.hid e
        clear e
        go_wp2
        go_ret
        exact ⟨by rw [E.out]; rfl, z⟩

end Go.Proofs.Ytkgiddpeaebdfaa
