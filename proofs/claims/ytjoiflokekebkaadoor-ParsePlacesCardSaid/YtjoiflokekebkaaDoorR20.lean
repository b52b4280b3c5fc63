/- The document's examples: works. -/
import Derived.Test.YtjoiflokekebkaaDoorR19
set_option linter.all false
namespace Go.Proofs.YtjoiflokekebkaaDoor
open Go.RowKit

def text1 : ByteArray := ⟨#[99, 111, 32, 102, 40, 41, 32, 123, 32, 114, 101, 116, 117, 114, 110, 32, 49, 59, 32, 125]⟩
def text2 : ByteArray := ⟨#[99, 111, 32, 102, 40, 41, 32, 123, 32, 120, 32, 61, 32, 59, 32, 125]⟩
def src1 : Src := ⟨[], [], [⟨⟨#[102]⟩, [], [.mk 6 9 noB .zero .zero .zero ⟨true, 1, ⟨noB, []⟩⟩ [] [] []], 0⟩]⟩
theorem parse_text2 : parseB text2 = .error (60, 13) := by kernel_rfl
theorem parse_text1 : parseB text1 = .ok src1 := by kernel_rfl
/-- A row of one element: its cells. -/
theorem Rd.one {W : World} {ok : Nat → Prop} {e : TypeId} {sz : Nat} {u : Value} {ds : List D} (h : Rd W ok u (.row e sz [ds])) :
    ∃ g c, u = .slice (some ⟨g, 0, none⟩) 1 c ∧ g < W.heap.size ∧ ∀ (j : Nat) (d : D), ds[j]? = some d → ∃ x, W.cell? ⟨g, j, none⟩ = some x ∧ Rd W ok x d := by
  cases h with
  | @row _ _ _ _ _ xs ho hk hl hr =>
    obtain ⟨A, c, rfl⟩ := row_slice ho
    obtain ⟨g, rfl, _, hg, _, hc⟩ := row_at ho (by simp)
    refine ⟨g, c, rfl, hg, fun j d hj => ?_⟩
    have h1 := hr 0 ds j d rfl hj
    have hlen : xs.length = 1 * sz := ho.1
    have hjl : j < ds.length := (List.getElem?_eq_some_iff.1 hj).1
    have hds : ds.length = sz := hl 0 ds rfl
    have hx : xs[j]? = some (xs.getD (0 * sz + j) .nilIface) := by
      rw [List.getD_eq_getElem?_getD, Nat.zero_mul, Nat.zero_add, List.getElem?_eq_getElem (by omega)]
      rfl
    exact ⟨_, hc j _ hx, h1.mono (fun k hk => hk.1)⟩
theorem src1_open {W : World} {ok : Nat → Prop} {v : Value} (h : Rd W ok v (.row 38 4 (src1.fs.map Fnc.d))) :
    ∃ g c g2 c2, v = .slice (some ⟨g, 0, none⟩) 1 c ∧ W.cell? ⟨g, 0, none⟩ = some (.string ⟨#[102]⟩) ∧ W.cell? ⟨g, 2, none⟩ = some (.slice (some ⟨g2, 0, none⟩) 1 c2) ∧ W.cell? ⟨g2, 1, none⟩ = some (.int .i64 9) := by
  obtain ⟨g, c, rfl, _, h1⟩ := Rd.one (ds := Fnc.d ⟨⟨#[102]⟩, [], [.mk 6 9 noB .zero .zero .zero ⟨true, 1, ⟨noB, []⟩⟩ [] [] []], 0⟩) h
  obtain ⟨x0, hx0, hr0⟩ := h1 0 _ rfl
  obtain ⟨x2, hx2, hr2⟩ := h1 2 _ rfl
  obtain rfl := hr0.v_eq
  simp only [Stm.ds] at hr2
  obtain ⟨g2, c2, rfl, _, h2⟩ := Rd.one hr2
  obtain ⟨x1, hx1, hr1⟩ := h2 1 (.v (.int .i64 9)) (by simp [Stm.d, Ty.d])
  obtain rfl := hr1.v_eq
  exact ⟨g, c, g2, c2, rfl, hx0, hx2, hx1⟩
set_option maxRecDepth 100000 in
set_option maxHeartbeats 8000000 in
theorem works_any {W : World} (hv : HasErr W) : Calls Tryd.prog 5 #[] W fun e W' => e = .returned (.bool true) ∧ Below W.heap.size W W' := by
  have HV := Lib.hid hv
  clear hv
  go_enter Tryd.func5, Tryd.ntmps5
  go_wp2_with fail
  refine (parse_any text1 (by decide) W HV.out).mono ?_
  rintro e w1 ⟨⟨er, at_, hp, rfl⟩ | ⟨x, cs, hp, rfl, hrd⟩, hb⟩
  · rw [parse_text1] at hp
    cases hp
  rw [parse_text1] at hp
  injection hp with hp
  subst hp
  obtain ⟨A1, c1, A2, c2, A3, c3, rfl⟩ := src_open hrd
  have HRD := Lib.hid hrd.2.2.1
  have HV1 := Lib.hid (HV.out.below hb)
  have HB := Lib.hid hb
  clear hb hrd HV
  go_wp2_with fail
  have HX : Hid (Bx 31 (w1.alloc (.cells #[.slice A1 src1.ss.length c1, .slice A2 src1.es.length c2, .slice A3 src1.fs.length c3] 31)) w1.heap.size #[.slice A1 src1.ss.length c1, .slice A2 src1.es.length c2, .slice A3 src1.fs.length c3]) := Lib.hid (.newAt rfl)
  have HR2 := Lib.hid (HRD.out.bel ((Below.refl w1.heap.size w1).alloc (Nat.le_refl _) (.cells #[.slice A1 src1.ss.length c1, .slice A2 src1.es.length c2, .slice A3 src1.fs.length c3] 31)))
  have HV2 := Lib.hid (HV1.out.below ((Below.refl w1.heap.size w1).alloc (Nat.le_refl _) (.cells #[.slice A1 src1.ss.length c1, .slice A2 src1.es.length c2, .slice A3 src1.fs.length c3] 31)))
  have HB2 := Lib.hid (HB.out.alloc HB.out.size (.cells #[.slice A1 src1.ss.length c1, .slice A2 src1.es.length c2, .slice A3 src1.fs.length c3] 31))
  clear HRD HV1 HB
  generalize (w1.alloc (.cells #[.slice A1 src1.ss.length c1, .slice A2 src1.es.length c2, .slice A3 src1.fs.length c3] 31)) = w2 at *
  generalize w1.heap.size = z at *
  refine (parse_any text2 (by decide) w2 HV2.out).mono ?_
  rintro e w3 ⟨⟨er, at_, hp, rfl⟩ | ⟨x, cs, hp, rfl, hrd⟩, hb⟩
  rotate_left
  · rw [parse_text2] at hp
    cases hp
  rw [parse_text2] at hp
  injection hp with hp
  injection hp with h1 h2
  subst h1 h2
  have HX4 : Hid (Bx 31 (w3.alloc (.cells #[.slice none 0 0, .slice none 0 0, .slice none 0 0] 31)) z #[.slice A1 src1.ss.length c1, .slice A2 src1.es.length c2, .slice A3 src1.fs.length c3]) := Lib.hid ((HX.out.below hb).alloc _)
  have HR4 := Lib.hid ((HR2.out.bel hb).bel ((Below.refl w3.heap.size w3).alloc (Nat.le_refl _) (.cells #[.slice none 0 0, .slice none 0 0, .slice none 0 0] 31)))
  have HB3 := Lib.hid (HB2.out.trans (hb.mono HB2.out.size))
  have HB4 := Lib.hid (HB3.out.alloc HB3.out.size (.cells #[.slice none 0 0, .slice none 0 0, .slice none 0 0] 31))
  clear hb HX HR2 HV2 HB2 HB3
  obtain ⟨g, c, g2, c4, hv, k0, k2, k3⟩ := src1_open HR4.out
  have hl3 : src1.fs.length = 1 := rfl
  rw [hl3] at hv HX4 HR4 ⊢
  injection hv with hA _ hc
  subst hA hc
  obtain ⟨lX, cX, fX⟩ := HX4.out.see
  clear HX4 HR4
  go_wp2_with fail
  go_ret
  exact ⟨rfl, HB4.out⟩
end Go.Proofs.YtjoiflokekebkaaDoor
