/- Walks: a field, a variant. -/
import Derived.Test.YtjoiflokekebkaaDoorR4b
set_option linter.all false
namespace Go.Proofs.YtjoiflokekebkaaDoor
open Go.RowKit

theorem four_Field {W : World} {ok : Nat → Prop} {cs : List Value} {x : Fld} (h : Rds W ok cs (Fld.d x)) : ∃ a b c d, cs = [a, b, c, d] ∧ ∀ y ∈ cs, y.oneCell' = true := by
  obtain ⟨n, t⟩ := x
  cases t with
  | mk k m l =>
    simp only [Fld.d, Ty.d] at h
    match cs, h with
    | [a, b, c, d], h =>
      obtain ⟨h1, h2, h3, h4, _⟩ := h
      obtain rfl := h1.v_eq
      obtain rfl := h2.v_eq
      obtain rfl := h3.v_eq
      obtain ⟨A, cc, rfl⟩ := h4.slice
      exact ⟨_, _, _, _, rfl, by simp [Value.oneCell']⟩
theorem four_Variant {W : World} {ok : Nat → Prop} {cs : List Value} {x : Fld} (h : Rds W ok cs (Fld.d x)) : ∃ a b c d, cs = [a, b, c, d] ∧ ∀ y ∈ cs, y.oneCell' = true := four_Field h
/-- A box of a local: a block of the call's own. -/
theorem Bx.set {t : TypeId} {w : World} {x : Nat} {cs : Array Value} (h : Bx t w x cs) (i : Nat) (u : Value) : Bx t (w.setCell ⟨x, i, none⟩ u) x (cs.setIfInBounds i u) := blk_set h i u
theorem Bx.far {t : TypeId} {w : World} {x : Nat} {cs : Array Value} (h : Bx t w x cs) {p : Addr} (hp : x ≠ p.block) (u : Value) : Bx t (w.setCell p u) x cs := blk_far h hp u
theorem Leads.fld_mk {W W' : World} {n : ByteArray} {k : Int} {m : ByteArray} {l : List Ty} {u : Value} (h : Rd W' (fun j => W.heap.size ≤ j) u (.row 53 3 (Ty.ds l))) : Leads W Fld.d W' (.agg #[.string n, .int .i64 k, .string m, u]) ⟨n, .mk k m l⟩ :=
  ⟨[.string n, .int .i64 k, .string m, u], rfl, by simp only [Fld.d, Ty.d]; exact ⟨.v _, .v _, .v _, h, trivial⟩⟩

set_option maxRecDepth 100000 in
set_option maxHeartbeats 2000000 in
theorem field_rd {W : World} {R : Nat} {ts : List Tk} (h : Rdr W R ts) : Calls Tryd.prog 34 #[.pointer (some ⟨R, 0, none⟩)] W fun e W' => Does fieldP (Leads W Fld.d) W R ts e W' := by
  have hR := h.lt
  have HR0 := Lib.hid (h.below (bel_one hR (.cells #[.string ⟨#[]⟩, .int .i64 0, .string ⟨#[]⟩, .slice none 0 0] 96)) (by omega))
  have HG0 := Lib.hid (World.grownBy_alloc W (.cells #[.string ⟨#[]⟩, .int .i64 0, .string ⟨#[]⟩, .slice none 0 0] 96) (some R))
  have HX0 : Hid (Bx 96 (W.alloc (.cells #[.string ⟨#[]⟩, .int .i64 0, .string ⟨#[]⟩, .slice none 0 0] 96)) W.heap.size #[.string ⟨#[]⟩, .int .i64 0, .string ⟨#[]⟩, .slice none 0 0]) := Lib.hid (.newAt rfl)
  clear h
  go_enter Tryd.func34, Tryd.ntmps34
  go_wp2_with fail
  generalize W.alloc (.cells #[.string ⟨#[]⟩, .int .i64 0, .string ⟨#[]⟩, .slice none 0 0] 96) = w0 at *
  refine (name_rd HR0.out false).mono ?_
  rintro e w1 ⟨hg, ⟨x, us, v, hp, rfl, rfl, hr, hle⟩ | ⟨er, at_, hp, rfl⟩⟩
  · have HP1 := Lib.hid hp
    have HLE1 := Lib.hid hle
    have HG1 := Lib.hid (World.grownBy.trans HG0.out hg)
    have HX1 := Lib.hid (HX0.out.kept hg (by omega))
    have HR1 := Lib.hid hr
    have hn1 : W.heap.size < w1.heap.size := blk_lt HX1.out
    clear hp hle hg hr HG0 HX0 HR0
    have HX2 := Lib.hid (HX1.out.alloc (.cells #[.string x, .int .i64 0, .string ⟨#[]⟩, .slice none 0 0] 96))
    have HY2 : Hid (Bx 96 (w1.alloc (.cells #[.string x, .int .i64 0, .string ⟨#[]⟩, .slice none 0 0] 96)) w1.heap.size #[.string x, .int .i64 0, .string ⟨#[]⟩, .slice none 0 0]) := Lib.hid (.newAt rfl)
    have HG2 := Lib.hid (grown_alloc HG1.out (.cells #[.string x, .int .i64 0, .string ⟨#[]⟩, .slice none 0 0] 96))
    have HR2 := Lib.hid (HR1.out.below (bel_one HR1.out.lt (.cells #[.string x, .int .i64 0, .string ⟨#[]⟩, .slice none 0 0] 96)) (by omega))
    go_wp2_with fail
    generalize w1.alloc (.cells #[.string x, .int .i64 0, .string ⟨#[]⟩, .slice none 0 0] 96) = w2 at *
    clear HX1 HG1 HR1
    generalize w1.heap.size = m at *
    refine (must_rd HR2.out ⟨#[58]⟩).mono ?_
    rintro e w3 ⟨hg, ⟨⟨⟩, us2, v, hp, rfl, rfl, hr, hle⟩ | ⟨er, at_, hp, rfl⟩⟩
    · have HP2 := Lib.hid hp
      have HLE2 := Lib.hid hle
      have HG3 := Lib.hid (World.grownBy.trans HG2.out hg)
      have HX3 := Lib.hid (HX2.out.kept hg (by omega))
      have HY3 := Lib.hid (HY2.out.kept hg (by omega))
      have HR3 := Lib.hid hr
      clear hp hle hg hr HG2 HX2 HY2 HR2
      go_wp2_with fail
      refine (ty_rd 61 0 (by omega) (by omega) _ _ _ HR3.out).mono ?_
      rintro e w4 ⟨hg, ⟨t, us3, v, hp, rfl, hv, hr, hle⟩ | ⟨er, at_, hp, rfl⟩⟩
      · obtain ⟨k', n', l', A, c, rfl, rfl, hl⟩ := hv.ty
        have HP3 := Lib.hid hp
        have HLE3 := Lib.hid hle
        have HG4 := Lib.hid (World.grownBy.trans HG3.out hg)
        have HX4 := Lib.hid (HX3.out.kept hg (by omega))
        have HY4 := Lib.hid (HY3.out.kept hg (by omega))
        have HR4 := Lib.hid hr
        have hm3 : m < w3.heap.size := blk_lt HY3.out
        have HL := Lib.hid (hl.low (m := m + 1) (by omega))
        clear hp hle hg hr hl hv HG3 HX3 HY3 HR3
        obtain ⟨lx, cx, fx⟩ := HX4.out.see
        obtain ⟨ly, cy, fy⟩ := HY4.out.see
        have hne1 : (W.heap.size = m) = False := eq_false (by omega)
        have hne2 : (m = W.heap.size) = False := eq_false (by omega)
        go_wp2_with fail
        have HPF : Hid (fieldP ts = .ok (⟨x, .mk k' n' l'⟩, us3)) := Lib.hid (by rw [fieldP, Ps.bd_ok HP1.out, Ps.bd_ok HP2.out, Ps.bd_ok HP3.out]; exact rfl)
        have HPUT : ∀ w', Put W.heap.size (m + 1) w4 w' → Does fieldP (Leads W Fld.d) W R ts (.returned (.agg #[.string x, .int .i64 k', .string n', .slice A l'.length c])) w' := fun w' hput =>
          ⟨hput.grown HG4.out (Nat.le_refl _), .inl ⟨⟨x, .mk k' n' l'⟩, us3, _, HPF.out, rfl, Leads.fld_mk ((HL.out.put hput (Nat.le_refl _)).low (by omega)), HR4.out.put hput hR, by have := HLE1.out; have := HLE2.out; have := HLE3.out; omega⟩⟩
        refine bodyPost_ret (v := .agg #[.string x, .int .i64 k', .string n', .slice A l'.length c]) (by (simp only [results, Tryd.results34]); go_simp) rfl (HPUT _ ?_)
        repeat (first | with_reducible exact Put.refl _ _ _ | (with_reducible refine Put.set ?_ ?_ ?_ _; rotate_left; (simp only; omega); (simp only; omega)))
      · go_wp2_with fail
        exact ⟨rfl, World.grownBy.trans HG3.out hg, .inr ⟨er, at_, (by rw [fieldP, Ps.bd_ok HP1.out, Ps.bd_ok HP2.out]; exact Ps.bd_err hp), rfl⟩⟩
    · go_wp2_with fail
      exact ⟨rfl, World.grownBy.trans HG2.out hg, .inr ⟨er, at_, (by rw [fieldP, Ps.bd_ok HP1.out]; exact Ps.bd_err hp), rfl⟩⟩
  · go_wp2_with fail
    exact ⟨rfl, World.grownBy.trans HG0.out hg, .inr ⟨er, at_, Ps.bd_err hp, rfl⟩⟩
end Go.Proofs.YtjoiflokekebkaaDoor
