/- Walks: the reader of a source (it recovers). -/
import Derived.Test.YtjoiflokekebkaaDoorR17
set_option linter.all false
namespace Go.Proofs.YtjoiflokekebkaaDoor
open Go.RowKit Go.Proofs.YtjoiflokekebkaaDoorW.PrintLast

theorem items_s {n : Nat} {s : Src} {ts : List Tk} (hk : (hd ts).k = 0) : itemsP (n + 1) s ts = .ok (s, ts) := by rw [itemsP]; simp [hk]
theorem items_t {n : Nat} {s s' : Src} {ts us : List Tk} (hk : ¬ (hd ts).k = 0) (hx : itemP s ts = .ok (s', us)) : itemsP (n + 1) s ts = itemsP n s' us := by rw [itemsP]; simp only [hk, if_false]; exact Ps.bd_ok hx
theorem items_e {n : Nat} {s : Src} {ts : List Tk} {e : Int × Int} (hk : ¬ (hd ts).k = 0) (hx : itemP s ts = .error e) : itemsP (n + 1) s ts = .error e := by rw [itemsP]; simp only [hk, if_false]; exact Ps.bd_err hx
theorem tok_k (a b c d : Value) (w : World) : (Instr.field 48 (.agg #[a, b, c, d]) 0).run Tryd.prog w = .ok a w := by kernel_rfl
/-- What the reader of a source does. -/
def Reads (W : World) (R : Nat) (ts : List Tk) (e : Ending) (w' : World) : Prop :=
  W.grownBy w' (some R) ∧ ((∃ s us cs, itemsP (ts.length + 1) .zero ts = .ok (s, us) ∧ e = .returned (.tuple #[.agg (List.toArray cs), .agg #[.int .i64 0, .int .i64 0]]) ∧ Rds w' (fun j => W.heap.size ≤ j) cs (Src.d s)) ∨
    (∃ er at2, itemsP (ts.length + 1) .zero ts = .error (er, at2) ∧ e = .returned (.tuple #[.agg #[.slice none 0 0, .slice none 0 0, .slice none 0 0], .agg #[.int .i64 er, .int .i64 at2]])))
theorem src_start (W : World) : SrcAt W.heap.size (W.heap.size + 1) ((W.alloc (.cells #[.slice none 0 0, .slice none 0 0, .slice none 0 0] 31)).alloc (.cells #[.int .i64 0, .int .i64 0] 73)) .zero :=
  ⟨W.heap.size + 2, fun _ => 3, none, 0, none, 0, none, 0, (Bx.newAt rfl).alloc _, ⟨by omega, by omega, rfl⟩, .newAt (by simp), Rd.nil _ _ _ _, Rd.nil _ _ _ _, Rd.nil _ _ _ _⟩
set_option maxRecDepth 100000 in
set_option maxHeartbeats 8000000 in
theorem read_rd {W : World} {R : Nat} {ts : List Tk} (h : Rdr W R ts) : Calls Tryd.prog 12 #[.pointer (some ⟨R, 0, none⟩)] W fun e w' => Reads W R ts e w' := by
  have hR := h.lt
  have hlen := h.ok.len
  have hmf := mf
  have hf := tok_k
  have HS := Lib.hid (src_start W)
  have HR := Lib.hid (h.below (((Below.refl (R + 1) W).alloc (by omega) (.cells #[.slice none 0 0, .slice none 0 0, .slice none 0 0] 31)).alloc (by simp; omega) (.cells #[.int .i64 0, .int .i64 0] 73)) (by omega))
  have HG := Lib.hid (grown_alloc (grown_alloc (World.grownBy.refl W (some R)) (.cells #[.slice none 0 0, .slice none 0 0, .slice none 0 0] 31)) (.cells #[.int .i64 0, .int .i64 0] 73))
  clear h
  go_enter_defers Tryd.func12, Tryd.ntmps12
  go_wp2_with fail
  generalize (W.alloc (.cells #[.slice none 0 0, .slice none 0 0, .slice none 0 0] 31)).alloc (.cells #[.int .i64 0, .int .i64 0] 73) = w1 at *
  have hP : itemsP (ts.length + 1) .zero ts = itemsP (ts.length + 1) .zero ts := rfl
  have HP := Lib.hid hP
  clear hP
  go_loopg [] (ts.length + 1) (fun gk wr => ∃ (us : List Tk) (s : Src) (n : Nat), us.length < gk ∧ us.length < n ∧ s.ss.length + s.es.length + s.fs.length + us.length ≤ ts.length ∧ Hid (Rdr wr R us) ∧ Hid (W.grownBy wr (some R)) ∧ Hid (SrcAt W.heap.size (W.heap.size + 1) wr s) ∧ Hid (itemsP (ts.length + 1) .zero ts = itemsP n s us))
  case atStart => exact ⟨ts, .zero, ts.length + 1, by omega, by omega, by simp [Src.zero], HR, HG, HS, HP⟩
  case round =>
    clear HR HG HS HP
    obtain ⟨us, s, n, hgk, hn, hcount, HR, HG, HS, HP⟩ := hrel
    obtain ⟨n, rfl⟩ : ∃ m, n = m + 1 := ⟨n - 1, by omega⟩
    go_wp2_with fail
    refine (next_rd HR.out).mono ?_
    rintro e w2 ⟨rfl, hb⟩
    have HR2 := Lib.hid (HR.out.below hb HR.out.lt)
    have HG2 := Lib.hid (grown_then HG.out hb HG.out.size)
    have HS2 := Lib.hid (HS.out.bel hb)
    clear hb HR HG HS
    by_cases hk : (hd us).k = 0
    · obtain ⟨N, col, A1, c1, A2, c2, A3, c3, hs⟩ := HS2.out
      have HQ := Lib.hid hs
      have HPF : Hid (itemsP (ts.length + 1) .zero ts = .ok (s, us)) := Lib.hid (by rw [HP.out]; exact items_s hk)
      have hb4 : Below W.heap.size w2 (((((w2.setCell ⟨W.heap.size, 0, none⟩ (.slice A1 s.ss.length c1)).setCell ⟨W.heap.size, 1, none⟩ (.slice A2 s.es.length c2)).setCell ⟨W.heap.size, 2, none⟩ (.slice A3 s.fs.length c3)).setCell ⟨W.heap.size + 1, 0, none⟩ (.int .i64 0)).setCell ⟨W.heap.size + 1, 1, none⟩ (.int .i64 0)) := by
        repeat (first | with_reducible exact Below.refl _ _ | (with_reducible refine bel_set ?_ ?_ _; rotate_left; (simp only; omega)))
      have hx4 := ((((hs.bx.set 0 (.slice A1 s.ss.length c1)).set 1 (.slice A2 s.es.length c2)).set 2 (.slice A3 s.fs.length c3)).far (p := ⟨W.heap.size + 1, 0, none⟩) (by simp) (.int .i64 0)).far (p := ⟨W.heap.size + 1, 1, none⟩) (by simp) (.int .i64 0)
      have hx5 := hx4.cast (cs' := #[.slice A1 s.ss.length c1, .slice A2 s.es.length c2, .slice A3 s.fs.length c3]) (by simp)
      have hy4 := ((((hs.be.far (p := ⟨W.heap.size, 0, none⟩) (by simp) (.slice A1 s.ss.length c1)).far (p := ⟨W.heap.size, 1, none⟩) (by simp) (.slice A2 s.es.length c2)).far (p := ⟨W.heap.size, 2, none⟩) (by simp) (.slice A3 s.fs.length c3)).set 0 (.int .i64 0)).set 1 (.int .i64 0)
      have hy5 := hy4.cast (cs' := #[.int .i64 0, .int .i64 0]) (by simp)
      have HRW : ∀ (c : Nat) (v : Value) (d : D), Rd w2 (fun j => W.heap.size < j ∧ j < N ∧ col j = c) v d → c ≠ 3 → Rd _ (fun j => W.heap.size ≤ j) v d := fun c v d hd hc => (hd.step (W' := ((((w2.setCell ⟨W.heap.size, 0, none⟩ (.slice A1 s.ss.length c1)).setCell ⟨W.heap.size, 1, none⟩ (.slice A2 s.es.length c2)).setCell ⟨W.heap.size, 2, none⟩ (.slice A3 s.fs.length c3)).setCell ⟨W.heap.size + 1, 0, none⟩ (.int .i64 0)).setCell ⟨W.heap.size + 1, 1, none⟩ (.int .i64 0)) (fun k hk _ => by
        have h1 := hk.1
        have h2 : k ≠ W.heap.size + 1 := fun e => hc (by rw [← hk.2.2, e]; exact hs.hE.2.2)
        rw [Below.heap_setCell _ _ _ _ (by simpa using h2), Below.heap_setCell _ _ _ _ (by simpa using h2), Below.heap_setCell _ _ _ _ (by simp; omega), Below.heap_setCell _ _ _ _ (by simp; omega), Below.heap_setCell _ _ _ _ (by simp; omega)])).mono (fun k hk => Nat.le_of_lt hk.1)
      have HRD := Lib.hid (show Rds _ (fun j => W.heap.size ≤ j) [.slice A1 s.ss.length c1, .slice A2 s.es.length c2, .slice A3 s.fs.length c3] (Src.d s) from ⟨HRW 0 _ _ hs.hss (by decide), HRW 1 _ _ hs.hes (by decide), HRW 2 _ _ hs.hfs (by decide), trivial⟩)
      have HX5 := Lib.hid hx5
      have HY5 := Lib.hid hy5
      have HG5 := Lib.hid (grown_then HG2.out hb4 (Nat.le_refl _))
      obtain ⟨lS, cS, fS⟩ := hs.bx.see
      obtain ⟨lE, cE, fE⟩ := hs.be.see
      clear hs hb4 hx4 hx5 hy4 hy5 HRW HQ
      go_wp2_with fail
      clear lS cS fS lE cE fE
      generalize ((((w2.setCell ⟨W.heap.size, 0, none⟩ (.slice A1 s.ss.length c1)).setCell ⟨W.heap.size, 1, none⟩ (.slice A2 s.es.length c2)).setCell ⟨W.heap.size, 2, none⟩ (.slice A3 s.fs.length c3)).setCell ⟨W.heap.size + 1, 0, none⟩ (.int .i64 0)).setCell ⟨W.heap.size + 1, 1, none⟩ (.int .i64 0) = w9 at *
      refine leaves_cons (f := 22) (args := #[.pointer (some ⟨W.heap.size, 0, none⟩), .pointer (some ⟨W.heap.size + 1, 0, none⟩)]) (by simp) (by simp [go_sem]) ?_
      refine (catch_idle _).mono ?_
      rintro e u' w'' ⟨rfl, rfl, rfl⟩
      obtain ⟨lS, cS, fS⟩ := HX5.out.see
      obtain ⟨lE, cE, fE⟩ := HY5.out.see
      exact ⟨.tuple #[.agg #[.slice A1 s.ss.length c1, .slice A2 s.es.length c2, .slice A3 s.fs.length c3], .agg #[.int .i64 0, .int .i64 0]], (by simp only [results, Tryd.results12]; go_simp), HG5.out, .inl ⟨s, us, _, HPF.out, rfl, HRD.out⟩⟩
    · go_wp2_with fail
      refine (item_rd (W := W) HR2.out HG2.out hR (Nat.le_refl _) HS2.out ⟨by omega, by omega, by omega⟩).mono ?_
      rintro e w3 (⟨hg, hs, er, at2, hp, rfl⟩ | ⟨hg, s', us', hp, rfl, hs, hr⟩)
      · have HPF : Hid (itemsP (ts.length + 1) .zero ts = .error (er, at2)) := Lib.hid (by rw [HP.out]; exact items_e hk hp)
        obtain ⟨v1, v2, v3, hbx, hlt, hbe⟩ := hs.box
        have HX := Lib.hid hbx
        have HY := Lib.hid hbe
        have HG3 := Lib.hid hg
        clear hs hbx hbe hg hp
        go_wp2_with fail
        refine leaves_cons (f := 22) (args := #[.pointer (some ⟨W.heap.size, 0, none⟩), .pointer (some ⟨W.heap.size + 1, 0, none⟩)]) (by simp) (by simp [go_sem]) ?_
        refine (catch_panicking er at2 _ HX.out HY.out (by simp) (Nat.le_refl _) (by simp) []).mono ?_
        rintro e u' w'' ⟨rfl, rfl, hb, hx, hy⟩
        obtain ⟨lS, cS, fS⟩ := hx.see
        obtain ⟨lE, cE, fE⟩ := hy.see
        exact ⟨.tuple #[.agg #[.slice none 0 0, .slice none 0 0, .slice none 0 0], .agg #[.int .i64 er, .int .i64 at2]], (by simp only [results, Tryd.results12]; go_simp), grown_then HG3.out hb (Nat.le_refl _), .inr ⟨er, at2, HPF.out, rfl⟩⟩
      · have hlt := (Lt.item s us s' us' hp).2
        have hct := item_count hp
        have HP2 : Hid (itemsP (ts.length + 1) .zero ts = itemsP n s' us') := Lib.hid (by rw [HP.out]; exact items_t hk hp)
        have HG3 := Lib.hid hg
        have HS3 := Lib.hid hs
        have HR3 := Lib.hid hr
        clear hg hs hr hp HP HR2 HG2 HS2
        go_wp2_with fail
        go_roundg (us'.length + 1)
        case measure => omega
        case rel => exact ⟨us', s', n, by omega, by omega, by omega, HR3, HG3, HS3, HP2⟩
end Go.Proofs.YtjoiflokekebkaaDoor
