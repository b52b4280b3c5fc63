/- Walks: parse.Parse. -/
import Derived.Test.YtjoiflokekebkaaDoorR18
import Derived.Test.YtjoiflokekebkaaDoorP2
set_option linter.all false
namespace Go.Proofs.YtjoiflokekebkaaDoor
open Go.RowKit Go.Proofs.YtjoiflokekebkaaDoorW.PrintLast

theorem rdr_lex {w : World} {base : Nat} {l : List Tk} {v : Value} (ho : w.ownsRow base 48 4 v l.length (tcells l)) (ht : Toks l) : Rdr (w.alloc (.cells #[v] 71)) w.heap.size l := by
  have h0 : 0 < l.length := List.length_pos_iff.2 ht.ne
  obtain ⟨A, c, rfl⟩ := row_slice ho
  obtain ⟨g, rfl, hb, hg, hz, hc⟩ := row_at ho h0
  have hcap : l.length ≤ c := by
    obtain ⟨_, ⟨hv, _⟩ | ⟨g', cap, cur, hv, _, _, hn, _⟩⟩ := ho
    · cases hv
    · injection hv with _ _ hv; omega
  refine ⟨⟨g, 0, c, heap_alloc_new w _, hg, hcap, fun i t hi => ?_⟩, ht⟩
  obtain ⟨a, b, d, e⟩ := tcells_at l i t hi
  have hm : ∀ j u, (tcells l)[j]? = some u → (w.alloc (.cells #[.slice (some ⟨g, 0, none⟩) l.length c] 71)).cell? ⟨g, j, none⟩ = some u := fun j u hj => by
    have h1 := hc j u hj
    have h2 := ((Below.refl w.heap.size w).alloc (Nat.le_refl _) (.cells #[.slice (some ⟨g, 0, none⟩) l.length c] 71)).block g hg
    unfold World.cell? at h1 ⊢
    rw [show (w.alloc (.cells #[.slice (some ⟨g, 0, none⟩) l.length c] 71)).heap[(⟨g, j, none⟩ : Addr).block]? = w.heap[(⟨g, j, none⟩ : Addr).block]? from h2]
    exact h1
  simp only [Nat.zero_add]
  exact ⟨hm _ _ a, hm _ _ b, hm _ _ d, hm _ _ e⟩
theorem Below.of_grown {w w' : World} {B R : Nat} (hg : w.grownBy w' (some R)) (hB : B ≤ R) (hs : B ≤ w.heap.size) : Below B w w' :=
  ⟨hg.os, hg.tape, hg.output, hg.size, fun k hk => hg.block k (by omega) (fun e => by injection e; omega)⟩
theorem Put.drew {lo hi : Nat} {w w' : World} (h : Put lo hi w w') : Put lo hi w w'.drew := ⟨h.os, h.tape, h.output, h.size, h.block⟩
theorem src_open {w : World} {ok : Nat → Prop} {cs : List Value} {x : Src} (h : Rds w ok cs (Src.d x)) : ∃ A1 c1 A2 c2 A3 c3, cs = [.slice A1 x.ss.length c1, .slice A2 x.es.length c2, .slice A3 x.fs.length c3] := by
  match cs, h with
  | [a, b, c], h =>
    obtain ⟨h1, h2, h3, _⟩ := h
    obtain ⟨A1, c1, rfl⟩ := h1.slice
    obtain ⟨A2, c2, rfl⟩ := h2.slice
    obtain ⟨A3, c3, rfl⟩ := h3.slice
    exact ⟨A1, c1, A2, c2, A3, c3, by simp⟩
/-- What Parse hands back. -/
def ParseEnd (W W' : World) (s : ByteArray) (e : Ending) : Prop :=
  (∃ er at_, parseB s = .error (er, at_) ∧ e = .returned (.tuple #[.agg #[.slice none 0 0, .slice none 0 0, .slice none 0 0], .int .i64 er, .int .i64 at_])) ∨
  (∃ x cs, parseB s = .ok x ∧ e = .returned (.tuple #[.agg (List.toArray cs), .int .i64 0, .int .i64 0]) ∧ Rds W' (fun j => W.heap.size ≤ j) cs (Src.d x))
set_option maxRecDepth 100000 in
set_option maxHeartbeats 8000000 in
theorem parse_any (s : ByteArray) (hs : s.size ≤ 9000000000000000000) (W : World) (hv : HasErr W) : Calls Tryd.prog 7 #[.string s] W fun e W' => ParseEnd W W' s e ∧ Below W.heap.size W W' := by
  have HBX := Lib.hid (.newAt rfl : Bx 31 (W.alloc (.cells #[.slice none 0 0, .slice none 0 0, .slice none 0 0] 31)) W.heap.size #[.slice none 0 0, .slice none 0 0, .slice none 0 0])
  have hbl := (Below.refl W.heap.size W).alloc (Nat.le_refl _) (.cells #[.slice none 0 0, .slice none 0 0, .slice none 0 0] 31)
  have HV := Lib.hid (hv.below hbl)
  have HB := Lib.hid hbl
  clear hv hbl
  go_enter Tryd.func7, Tryd.ntmps7
  go_wp2_with fail
  generalize W.alloc (.cells #[.slice none 0 0, .slice none 0 0, .slice none 0 0] 31) = w1 at *
  refine (lex_any s hs w1 HV.out).mono ?_
  rintro e w2 ⟨⟨er, at_, hp, rfl⟩ | ⟨l, v, hp, ho, hlen, rfl⟩, hb⟩
  · have hne : ¬ er = 0 := lexB_err hp
    have hne2 : (er != 0) = true := bne_iff_ne.2 hne
    have HPF : Hid (parseB s = .error (er, (at_ : Int))) := Lib.hid (by rw [parseB, hp])
    have HX2 := Lib.hid (HBX.out.below hb)
    have HB2 := Lib.hid (HB.out.trans (hb.mono HB.out.size))
    obtain ⟨lX, cX, fX⟩ := HX2.out.see
    clear hb hp
    go_wp2_with fail
    refine bodyPost_ret (v := .tuple #[.agg #[.slice none 0 0, .slice none 0 0, .slice none 0 0], .int .i64 er, .int .i64 (at_ : Int)]) (by (simp only [results, Tryd.results7]; go_simp)) rfl ⟨.inl ⟨er, at_, HPF.out, rfl⟩, HB2.out.trans ?_⟩
    repeat (first | with_reducible exact Below.refl _ _ | (with_reducible refine bel_set ?_ ?_ _; rotate_left; (simp only; omega)))
  · obtain ⟨A, c, rfl⟩ := row_slice ho
    have HPF := Lib.hid hp
    have HT := Lib.hid (lexB_toks hp).1
    have HO := Lib.hid ho
    have HX2 := Lib.hid (HBX.out.below hb)
    have HB2 := Lib.hid (HB.out.trans (hb.mono HB.out.size))
    clear hb hp ho
    go_wp2_with fail
    refine (read_rd (rdr_lex HO.out HT.out)).mono ?_
    rintro e w3 ⟨hg, ⟨x, us, cs, hp, rfl, hrd⟩ | ⟨er, at2, hp, rfl⟩⟩
    · have HPE : Hid (parseB s = .ok x) := Lib.hid (by rw [parseB, HPF.out]; simp only [hp])
      obtain ⟨A1, c1, A2, c2, A3, c3, rfl⟩ := src_open hrd
      have HRD := Lib.hid hrd
      have HG3 := Lib.hid hg
      clear hg hp hrd
      have HX3 : Hid (Bx 31 ((w3.alloc (.cells #[.slice A1 x.ss.length c1, .slice A2 x.es.length c2, .slice A3 x.fs.length c3] 31)).alloc (.cells #[.int .i64 0, .int .i64 0] 73)) W.heap.size #[.slice none 0 0, .slice none 0 0, .slice none 0 0]) := Lib.hid ((((HX2.out.alloc _).kept HG3.out (Nat.ne_of_gt (blk_lt HX2.out))).alloc _).alloc _)
      have HP3 : Hid (Bx 31 ((w3.alloc (.cells #[.slice A1 x.ss.length c1, .slice A2 x.es.length c2, .slice A3 x.fs.length c3] 31)).alloc (.cells #[.int .i64 0, .int .i64 0] 73)) w3.heap.size #[.slice A1 x.ss.length c1, .slice A2 x.es.length c2, .slice A3 x.fs.length c3]) := Lib.hid ((Bx.newAt rfl).alloc _)
      have HQ3 : Hid (Bx 73 ((w3.alloc (.cells #[.slice A1 x.ss.length c1, .slice A2 x.es.length c2, .slice A3 x.fs.length c3] 31)).alloc (.cells #[.int .i64 0, .int .i64 0] 73)) (w3.heap.size + 1) #[.int .i64 0, .int .i64 0]) := Lib.hid (.newAt (by simp))
      have hz : W.heap.size < w3.heap.size := by have := blk_lt HX2.out; have := HG3.out.size; simp at this; omega
      have HB3 := Lib.hid ((HB2.out.trans ((Below.refl W.heap.size w2).alloc HB2.out.size (.cells #[.slice A l.length c] 71))).trans (Below.of_grown HG3.out HB2.out.size (by have := HB2.out.size; simp; omega)))
      have HB5 : Hid (Below W.heap.size W ((w3.alloc (.cells #[.slice A1 x.ss.length c1, .slice A2 x.es.length c2, .slice A3 x.fs.length c3] 31)).alloc (.cells #[.int .i64 0, .int .i64 0] 73))) := Lib.hid ((HB3.out.alloc (by omega) _).alloc (by simp; omega) _)
      have HRD5 : Hid (Rds ((w3.alloc (.cells #[.slice A1 x.ss.length c1, .slice A2 x.es.length c2, .slice A3 x.fs.length c3] 31)).alloc (.cells #[.int .i64 0, .int .i64 0] 73)) (fun j => W.heap.size < j) [.slice A1 x.ss.length c1, .slice A2 x.es.length c2, .slice A3 x.fs.length c3] (Src.d x)) := Lib.hid (((HRD.out.below ((Below.refl _ _).alloc (Nat.le_refl _) _)).below ((Below.refl _ _).alloc (Nat.le_refl _) _)).mono (fun k hk => by have := blk_lt HX2.out; simp at hk; omega))
      go_wp2_with fail
      generalize ((w3.alloc (.cells #[.slice A1 x.ss.length c1, .slice A2 x.es.length c2, .slice A3 x.fs.length c3] 31)).alloc (.cells #[.int .i64 0, .int .i64 0] 73)) = w5 at *
      have HFIN : ∀ w', Put W.heap.size (W.heap.size + 1) w5 w' → (ParseEnd W w' s (.returned (.tuple #[.agg #[.slice A1 x.ss.length c1, .slice A2 x.es.length c2, .slice A3 x.fs.length c3], .int .i64 0, .int .i64 0])) ∧ Below W.heap.size W w') := fun w' hput => ⟨.inr ⟨x, _, HPE.out, rfl, (HRD5.out.step (fun k hk _ => hput.block k (.inr hk))).mono (fun k hk => Nat.le_of_lt hk)⟩, HB5.out.trans ⟨hput.os, hput.tape, hput.output, Nat.le_of_eq hput.size.symm, fun k hk => hput.block k (.inl hk)⟩⟩
      generalize w3.heap.size = z at *
      have hn1 : (W.heap.size = z) = False := eq_false (by omega)
      have hn2 : (z = W.heap.size) = False := eq_false (by omega)
      have hn3 : (W.heap.size = z + 1) = False := eq_false (by omega)
      have hn4 : (z + 1 = W.heap.size) = False := eq_false (by omega)
      obtain ⟨lX, cX, fX⟩ := HX3.out.see
      obtain ⟨lP, cP, fP⟩ := HP3.out.see
      obtain ⟨lQ, cQ, fQ⟩ := HQ3.out.see
      have hKK : ∀ a b : Nat, a = a := fun _ _ => rfl
      clear hKK
      go_region
      all_goals go_wp2_with fail
      all_goals
        refine bodyPost_ret (v := .tuple #[.agg #[.slice A1 x.ss.length c1, .slice A2 x.es.length c2, .slice A3 x.fs.length c3], .int .i64 0, .int .i64 0]) (by (simp only [results, Tryd.results7]; go_simp)) rfl (HFIN _ ?_)
        repeat (first | with_reducible exact Put.refl _ _ _ | with_reducible refine Put.drew ?_ | (with_reducible refine Put.set ?_ ?_ ?_ _; rotate_left; (simp only; omega); (simp only; omega)))
    · have HPE : Hid (parseB s = .error (er, at2)) := Lib.hid (by rw [parseB, HPF.out]; simp only [hp])
      have HG3 := Lib.hid hg
      clear hg hp
      have HX3 : Hid (Bx 31 ((w3.alloc (.cells #[.slice none 0 0, .slice none 0 0, .slice none 0 0] 31)).alloc (.cells #[.int .i64 er, .int .i64 at2] 73)) W.heap.size #[.slice none 0 0, .slice none 0 0, .slice none 0 0]) := Lib.hid ((((HX2.out.alloc _).kept HG3.out (Nat.ne_of_gt (blk_lt HX2.out))).alloc _).alloc _)
      have HP3 : Hid (Bx 31 ((w3.alloc (.cells #[.slice none 0 0, .slice none 0 0, .slice none 0 0] 31)).alloc (.cells #[.int .i64 er, .int .i64 at2] 73)) w3.heap.size #[.slice none 0 0, .slice none 0 0, .slice none 0 0]) := Lib.hid ((Bx.newAt rfl).alloc _)
      have HQ3 : Hid (Bx 73 ((w3.alloc (.cells #[.slice none 0 0, .slice none 0 0, .slice none 0 0] 31)).alloc (.cells #[.int .i64 er, .int .i64 at2] 73)) (w3.heap.size + 1) #[.int .i64 er, .int .i64 at2]) := Lib.hid (.newAt (by simp))
      have hz : W.heap.size < w3.heap.size := by have := blk_lt HX2.out; have := HG3.out.size; simp at this; omega
      have HB3 := Lib.hid ((HB2.out.trans ((Below.refl W.heap.size w2).alloc HB2.out.size (.cells #[.slice A l.length c] 71))).trans (Below.of_grown HG3.out HB2.out.size (by have := HB2.out.size; simp; omega)))
      have HB5 : Hid (Below W.heap.size W ((w3.alloc (.cells #[.slice none 0 0, .slice none 0 0, .slice none 0 0] 31)).alloc (.cells #[.int .i64 er, .int .i64 at2] 73))) := Lib.hid ((HB3.out.alloc (by omega) _).alloc (by simp; omega) _)
      go_wp2_with fail
      generalize ((w3.alloc (.cells #[.slice none 0 0, .slice none 0 0, .slice none 0 0] 31)).alloc (.cells #[.int .i64 er, .int .i64 at2] 73)) = w5 at *
      have HFIN : ∀ w', Put W.heap.size (W.heap.size + 1) w5 w' → (ParseEnd W w' s (.returned (.tuple #[.agg #[.slice none 0 0, .slice none 0 0, .slice none 0 0], .int .i64 er, .int .i64 at2])) ∧ Below W.heap.size W w') := fun w' hput => ⟨.inl ⟨er, at2, HPE.out, rfl⟩, HB5.out.trans ⟨hput.os, hput.tape, hput.output, Nat.le_of_eq hput.size.symm, fun k hk => hput.block k (.inl hk)⟩⟩
      generalize w3.heap.size = z at *
      have hn1 : (W.heap.size = z) = False := eq_false (by omega)
      have hn2 : (z = W.heap.size) = False := eq_false (by omega)
      have hn3 : (W.heap.size = z + 1) = False := eq_false (by omega)
      have hn4 : (z + 1 = W.heap.size) = False := eq_false (by omega)
      obtain ⟨lX, cX, fX⟩ := HX3.out.see
      obtain ⟨lP, cP, fP⟩ := HP3.out.see
      obtain ⟨lQ, cQ, fQ⟩ := HQ3.out.see
      have hKK : ∀ a b : Nat, a = a := fun _ _ => rfl
      clear hKK
      go_region
      all_goals go_wp2_with fail
      all_goals
        refine bodyPost_ret (v := .tuple #[.agg #[.slice none 0 0, .slice none 0 0, .slice none 0 0], .int .i64 er, .int .i64 at2]) (by (simp only [results, Tryd.results7]; go_simp)) rfl (HFIN _ ?_)
        repeat (first | with_reducible exact Put.refl _ _ _ | with_reducible refine Put.drew ?_ | (with_reducible refine Put.set ?_ ?_ ?_ _; rotate_left; (simp only; omega); (simp only; omega)))
end Go.Proofs.YtjoiflokekebkaaDoor
