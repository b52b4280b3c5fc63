/- Walks: a type. -/
import Derived.Test.YtjoiflokekebkaaDoorR4
set_option linter.all false
namespace Go.Proofs.YtjoiflokekebkaaDoor
open Go.RowKit

/-- What stands in memory while a type is read. -/
structure Tf (W w : World) (R : Nat) (d : Int) : Prop where
  g : W.grownBy w (some R)
  lt : R < W.heap.size
  a : Bx 69 w W.heap.size #[.pointer (some ⟨R, 0, none⟩)]
  b : Bx 3 w (W.heap.size + 1) #[.int .i64 d]
  c : Bx 53 w (W.heap.size + 2) #[.int .i64 0, .string ⟨#[]⟩, .slice none 0 0]
theorem Tf.kept {W w w' : World} {R : Nat} {d : Int} (h : Tf W w R d) (hg : w.grownBy w' (some R)) : Tf W w' R d :=
  ⟨World.grownBy.trans h.g hg, h.lt, h.a.kept hg (by have := h.lt; omega), h.b.kept hg (by have := h.lt; omega), h.c.kept hg (by have := h.lt; omega)⟩
theorem Tf.begin {W : World} {R : Nat} (hR : R < W.heap.size) (d : Int) : Tf W (((W.alloc (.cells #[.pointer (some ⟨R, 0, none⟩)] 69)).alloc (.cells #[.int .i64 d] 3)).alloc (.cells #[.int .i64 0, .string ⟨#[]⟩, .slice none 0 0] 53)) R d :=
  ⟨World.grownBy.trans (World.grownBy.trans (World.grownBy_alloc _ _ _) (World.grownBy_alloc _ _ _)) (World.grownBy_alloc _ _ _), hR, ((Bx.newAt rfl).alloc _).alloc _, (Bx.newAt (by simp)).alloc _, Bx.newAt (by simp)⟩
theorem Tf.ends {W w : World} {R : Nat} {d : Int} (T : Tf W w R d) {us : List Tk} (hr : Rdr w R us) {K : Int} {nm : ByteArray} {u : Value} {l : List Ty} (hl : Rd w (fun j => W.heap.size + 3 ≤ j) u (.row 53 3 (Ty.ds l))) :
    W.grownBy (((w.setCell ⟨W.heap.size + 2, 0, none⟩ (.int .i64 K)).setCell ⟨W.heap.size + 2, 1, none⟩ (.string nm)).setCell ⟨W.heap.size + 2, 2, none⟩ u) (some R) ∧
    Rdr (((w.setCell ⟨W.heap.size + 2, 0, none⟩ (.int .i64 K)).setCell ⟨W.heap.size + 2, 1, none⟩ (.string nm)).setCell ⟨W.heap.size + 2, 2, none⟩ u) R us ∧
    Leads W Ty.d (((w.setCell ⟨W.heap.size + 2, 0, none⟩ (.int .i64 K)).setCell ⟨W.heap.size + 2, 1, none⟩ (.string nm)).setCell ⟨W.heap.size + 2, 2, none⟩ u) (.agg #[.int .i64 K, .string nm, u]) (.mk K nm l) := by
  have hlt := T.lt
  refine ⟨grown_set (grown_set (grown_set T.g (by simp) _) (by simp) _) (by simp) _, ((hr.far (by simp; omega) _).far (by simp; omega) _).far (by simp; omega) _, Leads.ty_mk ?_⟩
  exact (((hl.far (fun k hk => by simp only; omega) _).far (fun k hk => by simp only; omega) _).far (fun k hk => by simp only; omega) _).mono (fun k hk => by omega)
theorem Rd.low {w : World} {n m : Nat} {u : Value} {d : D} (h : Rd w (fun j => n ≤ j) u d) (hm : m ≤ n) : Rd w (fun j => m ≤ j) u d := h.mono (fun k hk => Nat.le_trans hm hk)

set_option maxRecDepth 100000 in
set_option maxHeartbeats 2000000 in
theorem ty_rd : ∀ k, TyOk k
  | 0 => fun d h0 hd W R ts h => by
    have h60 : d > 60 := by omega
    have T := Lib.hid (Tf.begin h.lt d)
    have hR := h.lt
    have H := Lib.hid h
    have HB := Lib.hid (((bel_one hR (.cells #[.pointer (some ⟨R, 0, none⟩)] 69)).alloc (by simp; omega) (.cells #[.int .i64 d] 3)).alloc (by simp; omega) (.cells #[.int .i64 0, .string ⟨#[]⟩, .slice none 0 0] 53))
    clear h hd
    go_enter Tryd.func48, Tryd.ntmps48
    go_wp2_with fail
    refine (stop_rd (H.out.below HB.out (by omega)) 61).mono ?_
    rintro e w1 ⟨rfl, hb⟩
    go_wp2_with fail
    exact ⟨rfl, grown_then T.out.g hb T.out.g.size, .inr ⟨61, _, rfl, rfl⟩⟩
  | k + 1 => fun d h0 hd W R ts h => by
    have h60 : ¬ d > 60 := by omega
    have hk : d + 1 + (k : Int) = 61 := by omega
    have IH := Lib.hid (fun K w a b us (h : Rdr w R us) ha hb => in_rd (ty_rd k) K d h0 hk (a := a) (b := b) h ha hb)
    have T := Lib.hid (Tf.begin h.lt d)
    have hR := h.lt
    have HB := Lib.hid (((bel_one hR (.cells #[.pointer (some ⟨R, 0, none⟩)] 69)).alloc (by simp; omega) (.cells #[.int .i64 d] 3)).alloc (by simp; omega) (.cells #[.int .i64 0, .string ⟨#[]⟩, .slice none 0 0] 53))
    have HR := Lib.hid (h.below HB.out (by omega))
    have hmf := mf
    clear h hd hk HB
    go_enter Tryd.func48, Tryd.ntmps48
    go_wp2_with fail
    generalize (((W.alloc (.cells #[.pointer (some ⟨R, 0, none⟩)] 69)).alloc (.cells #[.int .i64 d] 3)).alloc (.cells #[.int .i64 0, .string ⟨#[]⟩, .slice none 0 0] 53)) = w0 at *
    refine (opt_rd HR.out ⟨#[105, 110, 116]⟩).mono ?_
    rintro e w1 ⟨hg, ⟨hw1, rfl, hr⟩ | ⟨hw1, rfl, hr⟩⟩
    · skip
      have T1 := Lib.hid (T.out.kept hg)
      have HR1 := Lib.hid hr
      have W1 := Lib.hid hw1
      clear hg hr hw1 T HR
      have T := T1
      have HR := HR1
      clear T1 HR1
      obtain ⟨e1, e2, e3⟩ := T.out.ends HR.out (K := 1) (nm := ⟨#[]⟩) (u := (.slice none 0 0)) (l := []) (by simp only [Ty.ds]; exact Rd.nil _ _ _ _)
      have E1 := Lib.hid e1
      have E2 := Lib.hid e2
      have E3 := Lib.hid e3
      clear e1 e2 e3
      obtain ⟨la, ca, fa⟩ := T.out.a.see
      obtain ⟨lb, cb, fb⟩ := T.out.b.see
      obtain ⟨lc, cc, fc⟩ := T.out.c.see
      go_wp2_with fail
      exact bodyPost_ret (v := .agg #[.int .i64 1, .string ⟨#[]⟩, (.slice none 0 0)]) (by (simp only [results, Tryd.results48]); go_simp) rfl ⟨E1.out, .inl ⟨_, ts.tail, _, (by rw [tyP, optE_t W1.out]; rfl), rfl, E3.out, E2.out, by simp⟩⟩
    · skip
      have T1 := Lib.hid (T.out.kept hg)
      have HR1 := Lib.hid hr
      have W1 := Lib.hid hw1
      clear hg hr hw1 T HR
      have T := T1
      have HR := HR1
      clear T1 HR1
      obtain ⟨la, ca, fa⟩ := T.out.a.see
      obtain ⟨lb, cb, fb⟩ := T.out.b.see
      obtain ⟨lc, cc, fc⟩ := T.out.c.see
      go_wp2_with fail
      clear la ca fa lb cb fb lc cc fc
      refine (opt_rd HR.out ⟨#[99, 111]⟩).mono ?_
      rintro e w2 ⟨hg, ⟨hw2, rfl, hr⟩ | ⟨hw2, rfl, hr⟩⟩
      · skip
        have T1 := Lib.hid (T.out.kept hg)
        have HR1 := Lib.hid hr
        have W2 := Lib.hid hw2
        clear hg hr hw2 T HR
        have T := T1
        have HR := HR1
        clear T1 HR1
        obtain ⟨la, ca, fa⟩ := T.out.a.see
        obtain ⟨lb, cb, fb⟩ := T.out.b.see
        obtain ⟨lc, cc, fc⟩ := T.out.c.see
        go_wp2_with fail
        clear la ca fa lb cb fb lc cc fc
        refine (name_rd HR.out false).mono ?_
        rintro e v1 ⟨hg, ⟨x, us, v, hp, rfl, rfl, hr, hle⟩ | ⟨er, at_, hp, rfl⟩⟩
        · have HP := Lib.hid hp
          have HLE := Lib.hid hle
          have T1 := Lib.hid (T.out.kept hg)
          have HR1 := Lib.hid hr
          clear hg hp hr hle T HR
          have T := T1
          have HR := HR1
          clear T1 HR1
          obtain ⟨e1, e2, e3⟩ := T.out.ends HR.out (K := 7) (nm := x) (u := (.slice none 0 0)) (l := []) (by simp only [Ty.ds]; exact Rd.nil _ _ _ _)
          have E1 := Lib.hid e1
          have E2 := Lib.hid e2
          have E3 := Lib.hid e3
          clear e1 e2 e3
          obtain ⟨la, ca, fa⟩ := T.out.a.see
          obtain ⟨lb, cb, fb⟩ := T.out.b.see
          obtain ⟨lc, cc, fc⟩ := T.out.c.see
          go_wp2_with fail
          exact bodyPost_ret (v := .agg #[.int .i64 7, .string x, (.slice none 0 0)]) (by (simp only [results, Tryd.results48]); go_simp) rfl ⟨E1.out, .inl ⟨_, us, _, (by rw [tyP, optE_f W1.out, optE_t W2.out]; exact Ps.bd_ok HP.out), rfl, E3.out, E2.out, (by have := HLE.out; simp at this; omega)⟩⟩
        · go_wp2_with fail
          exact ⟨rfl, World.grownBy.trans T.out.g hg, .inr ⟨er, at_, (by rw [tyP, optE_f W1.out, optE_t W2.out]; exact Ps.bd_err hp), rfl⟩⟩
      · skip
        have T1 := Lib.hid (T.out.kept hg)
        have HR1 := Lib.hid hr
        have W2 := Lib.hid hw2
        clear hg hr hw2 T HR
        have T := T1
        have HR := HR1
        clear T1 HR1
        obtain ⟨la, ca, fa⟩ := T.out.a.see
        obtain ⟨lb, cb, fb⟩ := T.out.b.see
        obtain ⟨lc, cc, fc⟩ := T.out.c.see
        go_wp2_with fail
        clear la ca fa lb cb fb lc cc fc
        refine (opt_rd HR.out ⟨#[98, 111, 120]⟩).mono ?_
        rintro e w3 ⟨hg, ⟨hw3, rfl, hr⟩ | ⟨hw3, rfl, hr⟩⟩
        · skip
          have T1 := Lib.hid (T.out.kept hg)
          have HR1 := Lib.hid hr
          have W3 := Lib.hid hw3
          clear hg hr hw3 T HR
          have T := T1
          have HR := HR1
          clear T1 HR1
          obtain ⟨la, ca, fa⟩ := T.out.a.see
          obtain ⟨lb, cb, fb⟩ := T.out.b.see
          obtain ⟨lc, cc, fc⟩ := T.out.c.see
          go_wp2_with fail
          clear la ca fa lb cb fb lc cc fc
          refine (IH.out 4 _ _ _ _ HR.out T.out.a T.out.b).mono ?_
          rintro e v1 ⟨hg, ⟨x, us, v, hp, rfl, hv, hr, hle⟩ | ⟨er, at_, hp, rfl⟩⟩
          · obtain ⟨k1, n1, l1, A1, c1, rfl, rfl, hl⟩ := hv.ty
            have hs3 : W.heap.size + 3 ≤ _ := Nat.succ_le_of_lt (blk_lt T.out.c)
            have HL := Lib.hid (hl.low hs3)
            have HP := Lib.hid hp
            have HLE := Lib.hid hle
            have T1 := Lib.hid (T.out.kept hg)
            have HR1 := Lib.hid hr
            clear hg hp hr hle hl hv hs3 T HR
            have T := T1
            have HR := HR1
            clear T1 HR1
            obtain ⟨e1, e2, e3⟩ := T.out.ends HR.out (K := k1) (nm := n1) (u := (.slice A1 l1.length c1)) (l := l1) (HL.out)
            have E1 := Lib.hid e1
            have E2 := Lib.hid e2
            have E3 := Lib.hid e3
            clear e1 e2 e3
            obtain ⟨la, ca, fa⟩ := T.out.a.see
            obtain ⟨lb, cb, fb⟩ := T.out.b.see
            obtain ⟨lc, cc, fc⟩ := T.out.c.see
            go_wp2_with fail
            exact bodyPost_ret (v := .agg #[.int .i64 k1, .string n1, (.slice A1 l1.length c1)]) (by (simp only [results, Tryd.results48]); go_simp) rfl ⟨E1.out, .inl ⟨_, us, _, (by rw [tyP, optE_f W1.out, optE_f W2.out, optE_t W3.out]; exact HP.out), rfl, E3.out, E2.out, (by have := HLE.out; simp at this; omega)⟩⟩
          · go_wp2_with fail
            exact ⟨rfl, World.grownBy.trans T.out.g hg, .inr ⟨er, at_, (by rw [tyP, optE_f W1.out, optE_f W2.out, optE_t W3.out]; exact hp), rfl⟩⟩
        · skip
          have T1 := Lib.hid (T.out.kept hg)
          have HR1 := Lib.hid hr
          have W3 := Lib.hid hw3
          clear hg hr hw3 T HR
          have T := T1
          have HR := HR1
          clear T1 HR1
          obtain ⟨la, ca, fa⟩ := T.out.a.see
          obtain ⟨lb, cb, fb⟩ := T.out.b.see
          obtain ⟨lc, cc, fc⟩ := T.out.c.see
          go_wp2_with fail
          clear la ca fa lb cb fb lc cc fc
          refine (opt_rd HR.out ⟨#[38]⟩).mono ?_
          rintro e w4 ⟨hg, ⟨hw4, rfl, hr⟩ | ⟨hw4, rfl, hr⟩⟩
          · skip
            have T1 := Lib.hid (T.out.kept hg)
            have HR1 := Lib.hid hr
            have W4 := Lib.hid hw4
            clear hg hr hw4 T HR
            have T := T1
            have HR := HR1
            clear T1 HR1
            obtain ⟨la, ca, fa⟩ := T.out.a.see
            obtain ⟨lb, cb, fb⟩ := T.out.b.see
            obtain ⟨lc, cc, fc⟩ := T.out.c.see
            go_wp2_with fail
            clear la ca fa lb cb fb lc cc fc
            refine (opt_rd HR.out ⟨#[109, 117, 116]⟩).mono ?_
            rintro e w5 ⟨hg, ⟨hw5, rfl, hr⟩ | ⟨hw5, rfl, hr⟩⟩
            · skip
              have T1 := Lib.hid (T.out.kept hg)
              have HR1 := Lib.hid hr
              have W5 := Lib.hid hw5
              clear hg hr hw5 T HR
              have T := T1
              have HR := HR1
              clear T1 HR1
              obtain ⟨la, ca, fa⟩ := T.out.a.see
              obtain ⟨lb, cb, fb⟩ := T.out.b.see
              obtain ⟨lc, cc, fc⟩ := T.out.c.see
              go_wp2_with fail
              clear la ca fa lb cb fb lc cc fc
              refine (IH.out 6 _ _ _ _ HR.out T.out.a T.out.b).mono ?_
              rintro e v1 ⟨hg, ⟨x, us, v, hp, rfl, hv, hr, hle⟩ | ⟨er, at_, hp, rfl⟩⟩
              · obtain ⟨k1, n1, l1, A1, c1, rfl, rfl, hl⟩ := hv.ty
                have hs3 : W.heap.size + 3 ≤ _ := Nat.succ_le_of_lt (blk_lt T.out.c)
                have HL := Lib.hid (hl.low hs3)
                have HP := Lib.hid hp
                have HLE := Lib.hid hle
                have T1 := Lib.hid (T.out.kept hg)
                have HR1 := Lib.hid hr
                clear hg hp hr hle hl hv hs3 T HR
                have T := T1
                have HR := HR1
                clear T1 HR1
                obtain ⟨e1, e2, e3⟩ := T.out.ends HR.out (K := k1) (nm := n1) (u := (.slice A1 l1.length c1)) (l := l1) (HL.out)
                have E1 := Lib.hid e1
                have E2 := Lib.hid e2
                have E3 := Lib.hid e3
                clear e1 e2 e3
                obtain ⟨la, ca, fa⟩ := T.out.a.see
                obtain ⟨lb, cb, fb⟩ := T.out.b.see
                obtain ⟨lc, cc, fc⟩ := T.out.c.see
                go_wp2_with fail
                exact bodyPost_ret (v := .agg #[.int .i64 k1, .string n1, (.slice A1 l1.length c1)]) (by (simp only [results, Tryd.results48]); go_simp) rfl ⟨E1.out, .inl ⟨_, us, _, (by rw [tyP, optE_f W1.out, optE_f W2.out, optE_f W3.out, optE_t W4.out, optE_t W5.out]; exact HP.out), rfl, E3.out, E2.out, (by have := HLE.out; simp at this; omega)⟩⟩
              · go_wp2_with fail
                exact ⟨rfl, World.grownBy.trans T.out.g hg, .inr ⟨er, at_, (by rw [tyP, optE_f W1.out, optE_f W2.out, optE_f W3.out, optE_t W4.out, optE_t W5.out]; exact hp), rfl⟩⟩
            · skip
              have T1 := Lib.hid (T.out.kept hg)
              have HR1 := Lib.hid hr
              have W5 := Lib.hid hw5
              clear hg hr hw5 T HR
              have T := T1
              have HR := HR1
              clear T1 HR1
              obtain ⟨la, ca, fa⟩ := T.out.a.see
              obtain ⟨lb, cb, fb⟩ := T.out.b.see
              obtain ⟨lc, cc, fc⟩ := T.out.c.see
              go_wp2_with fail
              clear la ca fa lb cb fb lc cc fc
              refine (IH.out 5 _ _ _ _ HR.out T.out.a T.out.b).mono ?_
              rintro e v1 ⟨hg, ⟨x, us, v, hp, rfl, hv, hr, hle⟩ | ⟨er, at_, hp, rfl⟩⟩
              · obtain ⟨k1, n1, l1, A1, c1, rfl, rfl, hl⟩ := hv.ty
                have hs3 : W.heap.size + 3 ≤ _ := Nat.succ_le_of_lt (blk_lt T.out.c)
                have HL := Lib.hid (hl.low hs3)
                have HP := Lib.hid hp
                have HLE := Lib.hid hle
                have T1 := Lib.hid (T.out.kept hg)
                have HR1 := Lib.hid hr
                clear hg hp hr hle hl hv hs3 T HR
                have T := T1
                have HR := HR1
                clear T1 HR1
                obtain ⟨e1, e2, e3⟩ := T.out.ends HR.out (K := k1) (nm := n1) (u := (.slice A1 l1.length c1)) (l := l1) (HL.out)
                have E1 := Lib.hid e1
                have E2 := Lib.hid e2
                have E3 := Lib.hid e3
                clear e1 e2 e3
                obtain ⟨la, ca, fa⟩ := T.out.a.see
                obtain ⟨lb, cb, fb⟩ := T.out.b.see
                obtain ⟨lc, cc, fc⟩ := T.out.c.see
                go_wp2_with fail
                exact bodyPost_ret (v := .agg #[.int .i64 k1, .string n1, (.slice A1 l1.length c1)]) (by (simp only [results, Tryd.results48]); go_simp) rfl ⟨E1.out, .inl ⟨_, us, _, (by rw [tyP, optE_f W1.out, optE_f W2.out, optE_f W3.out, optE_t W4.out, optE_f W5.out]; exact HP.out), rfl, E3.out, E2.out, (by have := HLE.out; simp at this; omega)⟩⟩
              · go_wp2_with fail
                exact ⟨rfl, World.grownBy.trans T.out.g hg, .inr ⟨er, at_, (by rw [tyP, optE_f W1.out, optE_f W2.out, optE_f W3.out, optE_t W4.out, optE_f W5.out]; exact hp), rfl⟩⟩
          · skip
            have T1 := Lib.hid (T.out.kept hg)
            have HR1 := Lib.hid hr
            have W4 := Lib.hid hw4
            clear hg hr hw4 T HR
            have T := T1
            have HR := HR1
            clear T1 HR1
            obtain ⟨la, ca, fa⟩ := T.out.a.see
            obtain ⟨lb, cb, fb⟩ := T.out.b.see
            obtain ⟨lc, cc, fc⟩ := T.out.c.see
            go_wp2_with fail
            clear la ca fa lb cb fb lc cc fc
            refine (name_rd HR.out true).mono ?_
            rintro e v1 ⟨hg, ⟨x, us, v, hp, rfl, rfl, hr, hle⟩ | ⟨er, at_, hp, rfl⟩⟩
            · have HP := Lib.hid hp
              have HLE := Lib.hid hle
              have T1 := Lib.hid (T.out.kept hg)
              have HR1 := Lib.hid hr
              clear hg hp hr hle T HR
              have T := T1
              have HR := HR1
              clear T1 HR1
              obtain ⟨e1, e2, e3⟩ := T.out.ends HR.out (K := 2) (nm := x) (u := (.slice none 0 0)) (l := []) (by simp only [Ty.ds]; exact Rd.nil _ _ _ _)
              have E1 := Lib.hid e1
              have E2 := Lib.hid e2
              have E3 := Lib.hid e3
              clear e1 e2 e3
              obtain ⟨la, ca, fa⟩ := T.out.a.see
              obtain ⟨lb, cb, fb⟩ := T.out.b.see
              obtain ⟨lc, cc, fc⟩ := T.out.c.see
              go_wp2_with fail
              exact bodyPost_ret (v := .agg #[.int .i64 2, .string x, (.slice none 0 0)]) (by (simp only [results, Tryd.results48]); go_simp) rfl ⟨E1.out, .inl ⟨_, us, _, (by rw [tyP, optE_f W1.out, optE_f W2.out, optE_f W3.out, optE_f W4.out]; exact Ps.bd_ok HP.out), rfl, E3.out, E2.out, HLE.out⟩⟩
            · go_wp2_with fail
              exact ⟨rfl, World.grownBy.trans T.out.g hg, .inr ⟨er, at_, (by rw [tyP, optE_f W1.out, optE_f W2.out, optE_f W3.out, optE_f W4.out]; exact Ps.bd_err hp), rfl⟩⟩
end Go.Proofs.YtjoiflokekebkaaDoor
