/- Walks: a type, a field, a variant. -/
import Derived.Test.YtjoiflokekebkaaDoorR3
set_option linter.all false
namespace Go.Proofs.YtjoiflokekebkaaDoor
open Go.RowKit

theorem Bx.kept {t : TypeId} {W W' : World} {x R : Nat} {cs : Array Value} (h : Bx t W x cs) (hg : W.grownBy W' (some R)) (hne : R ≠ x) : Bx t W' x cs :=
  (hg.block x (blk_lt h) (fun e => hne (by injection e with e; exact e.symm))).trans h
theorem Rd.v_eq {W : World} {ok : Nat → Prop} {u x : Value} (h : Rd W ok u (.v x)) : u = x := by
  cases h
  rfl
theorem Leads.ty {W W' : World} {v : Value} {x : Ty} (h : Leads W Ty.d W' v x) : ∃ k n l A c, x = .mk k n l ∧ v = .agg #[.int .i64 k, .string n, .slice A l.length c] ∧ Rd W' (fun j => W.heap.size ≤ j) (.slice A l.length c) (.row 53 3 (Ty.ds l)) := by
  obtain ⟨cs, rfl, hc⟩ := h
  cases x with
  | mk k n l =>
    simp only [Ty.d] at hc
    match cs, hc with
    | [a, b, u], hc =>
      obtain ⟨h1, h2, h3, _⟩ := hc
      obtain rfl := h1.v_eq
      obtain rfl := h2.v_eq
      have hl : ∀ l : List Ty, (Ty.ds l).length = l.length := fun l => by induction l with
        | nil => simp [Ty.ds]
        | cons x a ih => simp [Ty.ds, ih]
      obtain ⟨A, c, rfl⟩ := h3.slice
      rw [hl] at h3 ⊢
      exact ⟨k, n, l, A, c, rfl, rfl, h3⟩
theorem Leads.ty_mk {W W' : World} {k : Int} {n : ByteArray} {l : List Ty} {u : Value} (h : Rd W' (fun j => W.heap.size ≤ j) u (.row 53 3 (Ty.ds l))) : Leads W Ty.d W' (.agg #[.int .i64 k, .string n, u]) (.mk k n l) :=
  ⟨[.int .i64 k, .string n, u], rfl, by simp only [Ty.d]; exact ⟨.v _, .v _, h, trivial⟩⟩
theorem Leads.ty_nil {W W' : World} {k : Int} {n : ByteArray} : Leads W Ty.d W' (.agg #[.int .i64 k, .string n, .slice none 0 0]) (.mk k n []) := Leads.ty_mk (by simp only [Ty.ds]; exact Rd.nil _ _ _ _)
theorem mf (fn : Fn) (first cap : Array Value) (w : World) : (Instr.makeFunc fn first cap).run Tryd.prog w = .ok (.func fn first cap) w := rfl

/-- The contract of a type's reader. -/
def TyOk (k : Nat) : Prop := ∀ (d : Int), 0 ≤ d → d + k = 61 → ∀ (W : World) (R : Nat) (ts : List Tk), Rdr W R ts →
  Calls Tryd.prog 48 #[.pointer (some ⟨R, 0, none⟩), .int .i64 d] W fun e W' => Does (tyP k) (Leads W Ty.d) W R ts e W'
set_option maxRecDepth 100000 in
theorem in_rd {k : Nat} (ih : TyOk k) (K d : Int) (h0 : 0 ≤ d) (hd : d + 1 + k = 61) {W : World} {R a b : Nat} {ts : List Tk} (h : Rdr W R ts) (ha : Bx 69 W a #[.pointer (some ⟨R, 0, none⟩)]) (hb : Bx 3 W b #[.int .i64 d]) :
    Calls Tryd.prog 57 #[.int .i64 K, .pointer (some ⟨a, 0, none⟩), .pointer (some ⟨b, 0, none⟩)] W fun e W' => Does ((tyP k).bd fun t => .ret (.mk K noB [t])) (Leads W Ty.d) W R ts e W' := by
  have hR := h.lt
  have la := blk_lt ha
  have lb := blk_lt hb
  have ca : ∀ o, (W.alloc o).cell? ⟨a, 0, none⟩ = some (.pointer (some ⟨R, 0, none⟩)) := fun o => blk_cell (ha.alloc o) 0
  have cb : ∀ o, (W.alloc o).cell? ⟨b, 0, none⟩ = some (.int .i64 d) := fun o => blk_cell (hb.alloc o) 0
  have H := Lib.hid h
  have hd61 : d ≤ 61 := by omega
  have HC := Lib.hid (fun w hr => ih (d + 1) (by omega) hd w R ts hr)
  clear h ha hb hd
  go_enter Tryd.func57, Tryd.ntmps57
  go_wp2_with fail
  have HB := Lib.hid (bel_one hR (.cells #[.int .i64 0, .string ⟨#[]⟩, .slice none 0 0] 53))
  have hx : Bx 53 (W.alloc (.cells #[.int .i64 0, .string ⟨#[]⟩, .slice none 0 0] 53)) W.heap.size #[.int .i64 0, .string ⟨#[]⟩, .slice none 0 0] := .newAt rfl
  have HX := Lib.hid hx
  have HG := Lib.hid (World.grownBy_alloc W (.cells #[.int .i64 0, .string ⟨#[]⟩, .slice none 0 0] 53) (some R))
  have HN : Hid ((W.alloc (.cells #[.int .i64 0, .string ⟨#[]⟩, .slice none 0 0] 53)).heap.size = W.heap.size + 1) := Lib.hid (by simp)
  have HR1 := Lib.hid (H.out.below HB.out (by omega))
  clear hx ca cb
  generalize W.alloc (.cells #[.int .i64 0, .string ⟨#[]⟩, .slice none 0 0] 53) = w1 at *
  refine (HC.out _ HR1.out).mono ?_
  rintro e w2 ⟨hg, ⟨x, us, v, hp, rfl, hv, hr, hle⟩ | ⟨er, at_, hp, rfl⟩⟩
  · obtain ⟨k', n', l', A, c, rfl, rfl, hl⟩ := hv.ty
    have HX2 := Lib.hid (HX.out.kept hg (by omega))
    have HG2 := Lib.hid (World.grownBy.trans HG.out hg)
    have HP := Lib.hid hp
    have HRR := Lib.hid hr
    have HLE := Lib.hid hle
    have hs2 : w1.heap.size ≤ w2.heap.size := hg.size
    have HRD : Hid (Rds w2 (fun j => w1.heap.size ≤ j) [.int .i64 k', .string n', .slice A l'.length c] (Ty.d (.mk k' n' l'))) := Lib.hid (by simp only [Ty.d]; exact ⟨.v _, .v _, hl, trivial⟩)
    have hlt2 : W.heap.size < w2.heap.size := by have := HN.out; omega
    obtain ⟨lx, cx, fx⟩ := HX2.out.see
    clear hg hp hv hr hl hle
    go_wp2_with fail
    have hfar : ∀ {w : World} {x : Value} {i : Nat}, Rds w (fun j => w1.heap.size ≤ j) [.int .i64 k', .string n', .slice A l'.length c] (Ty.d (.mk k' n' l')) → Rds (w.setCell ⟨W.heap.size, i, none⟩ x) (fun j => w1.heap.size ≤ j) [.int .i64 k', .string n', .slice A l'.length c] (Ty.d (.mk k' n' l')) := fun h => h.far (fun k hk => by have := HN.out; simp only; omega) _
    have hlit := Rd.lit (ok := fun j => W.heap.size ≤ j) _ (e := 53) (sz := 3) (hfar (x := .slice (some ⟨w2.heap.size, 0, none⟩) 1 1) (i := 2) (hfar (x := .string ⟨#[]⟩) (i := 1) (hfar (x := .int .i64 K) (i := 0) HRD.out))) (by simp [Ty.d]) (fun j hj => by simp at hj; omega) (fun j hj => by have := HN.out; omega)
    simp only [World.size_setCell] at hlit
    refine bodyPost_ret (v := .agg #[.int .i64 K, .string ⟨#[]⟩, .slice (some ⟨w2.heap.size, 0, none⟩) 1 1]) (by (simp only [results, Tryd.results57]); go_simp) rfl ⟨?_, .inl ⟨_, us, _, Ps.bd_ok HP.out, rfl, Leads.ty_mk (by simpa [Ty.ds] using hlit), ?_, HLE.out⟩⟩
    · exact grown_alloc (grown_set (grown_set (grown_set HG2.out (by simp) _) (by simp) _) (by simp) _) _
    · exact (((HRR.out.far (by simpa using hR) _).far (by simpa using hR) _).far (by simpa using hR) _).below ((Below.refl (R + 1) _).alloc (by simp; omega) _) (by omega)
  · go_wp2_with fail
    exact ⟨rfl, World.grownBy.trans HG.out hg, .inr ⟨er, at_, Ps.bd_err hp, rfl⟩⟩
end Go.Proofs.YtjoiflokekebkaaDoor
