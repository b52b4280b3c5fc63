/- The walk of ParseGlue. -/
import Derived.Test.YtjoiflokekebkaaGreatDoorR25
import Derived.Test.YtjoiflokekebkaaGreatDoorM10
import Derived.Test.YtjoiflokekebkaaGreatDoorM8
set_option linter.all false
namespace Go.Proofs.YtjoiflokekebkaaGreatDoor
open Go.RowKit

def srcN (s : Src) : Nat := s.ss.length + s.es.length + s.fs.length
theorem itemQ_n {s : Src} {a : Int} {ts us : List Tk} {x : Src} (h : itemQ s a ts = .ok (x, us)) : srcN x = srcN s + 1 := by
  have h1 : ∀ d us', (structP d a).bd (fun y => .ret { s with ss := s.ss ++ [y] }) us' = .ok (x, us) → srcN x = srcN s + 1 := fun d us' h => by
    obtain ⟨y, vs, _, h2⟩ := bd_split h
    injection h2 with h2
    injection h2 with h2 _
    subst h2
    simp [srcN]; omega
  unfold itemQ optE at h
  split at h
  · exact h1 _ _ h
  · dsimp only at h
    split at h
    · exact h1 _ _ h
    · split at h
      · obtain ⟨y, vs, _, h2⟩ := bd_split h
        injection h2 with h2
        injection h2 with h2 _
        subst h2
        simp [srcN]; omega
      · obtain ⟨y, vs, _, h2⟩ := bd_split h
        injection h2 with h2
        injection h2 with h2 _
        subst h2
        simp [srcN]; omega
theorem items_n : ∀ (n : Nat) (s : Src) (ts : List Tk) (v : Src) (r : List Tk), itemsP n s ts = .ok (v, r) → srcN v + r.length ≤ srcN s + ts.length
  | 0, _, _, _, _, h => by cases h
  | n + 1, s, ts, v, r, h => by
    simp only [itemsP] at h
    split at h
    · injection h with h
      injection h with h1 h2
      subst h1 h2
      exact Nat.le_refl _
    · obtain ⟨x, us, h1, h2⟩ := bd_split h
      have h3 := itemQ_n (a := (hd ts).at_) h1
      have h4 := (Lt.itemQ s (hd ts).at_ _ _ _ h1).2
      have h5 := items_n n x us v r h2
      omega
theorem parseB_n {s : ByteArray} {x : Src} (h : parseB s = .ok x) : srcN x ≤ s.size + 1 := by
  obtain ⟨l, us, hl, hi⟩ := parseB_ok h
  have h1 := items_n _ _ _ _ _ hi
  obtain ⟨hT, hsz⟩ := lexB_toks hl
  have hlf : lexFrom s 0 = .ok l := by rw [lexB, if_neg (by omega)] at hl; exact hl
  have h2 := (from_toks s _ 0 (Nat.le_refl _) (Nat.zero_le _) l hlf).2.2
  simp [srcN, Src.zero] at h1 ⊢
  omega
theorem glue_sz {a b : ByteArray} (h3 : ¬ 3000 < a.size) (h4 : ¬ 3000 < b.size) : (a ++ nlB ++ b).size ≤ 9000000000000000000 := by
  have : (a ++ nlB ++ b).size = a.size + 1 + b.size := by rw [ByteArray.size_append, ByteArray.size_append]; rfl
  omega
theorem glue_s2 {a b : ByteArray} (h3 : ¬ 3000 < a.size) (h4 : ¬ 3000 < b.size) : ((a ++ nlB).size : Int) + (b.size : Int) ≤ 9223372036854775807 := by
  have : (a ++ nlB).size = a.size + 1 := by rw [ByteArray.size_append]; rfl
  omega
theorem parse_at {b : ByteArray} {l : List Tk} {f k : Int} (hl : lexB b = .ok l) (hp : parseB b = .error (f, k)) : 0 ≤ k ∧ k ≤ b.size := by
  obtain ⟨hT, hsz⟩ := lexB_toks hl
  have hR : (pairs (fun i _ => ∃ t ∈ l, t.at_ = i)).R l l := ⟨⟨hT.ne, hT.fin⟩, rfl, fun i t t' ht ht' => by
    rw [ht] at ht'
    injection ht' with ht'
    subst ht'
    exact ⟨rfl, rfl, rfl, t, List.mem_of_getElem? ht, rfl⟩⟩
  rw [parseB_items hl] at hp
  rcases RP.items (l.length + 1) (s := .zero) (s' := .zero) rfl l _ hR with ⟨x, us1, y, us2, e1, e2, e3, _⟩ | ⟨e, i, k2, e1, e2, t, ht, hti⟩
  · rw [e1] at hp; cases hp
  · rw [e1] at hp
    injection hp with hp
    injection hp with h1 h2
    subst h2
    have := (lexB_inc hl).1 t ht
    omega
theorem all_one {α : Type} {f : α → List D} (hf : ∀ x, (f x).all D.one = true) (l : List α) : ∀ (i : Nat) (ds : List D), (l.map f)[i]? = some ds → ds.all D.one = true := fun i ds h => by
  rw [List.getElem?_map] at h
  obtain ⟨x, _, rfl⟩ := Option.map_eq_some_iff.1 h
  exact hf x
theorem Bx.grew {t : TypeId} {w w' : World} {x : Nat} {cs : Array Value} {r : Option Nat} (h : Bx t w x cs) (hg : w.grownBy w' r) (hne : r ≠ some x) : Bx t w' x cs := (hg.block x (blk_lt h) (fun e => hne e.symm)).trans h
set_option maxRecDepth 100000 in
set_option maxHeartbeats 16000000 in
theorem parseGlue_walk (a : ByteArray) (ha : a.size ≤ 9000000000000000000) (b : ByteArray) (hb0 : b.size ≤ 9000000000000000000) (W : World) (hv : HasErr W) : Calls Tryz.prog 6 #[.string a, .string b] W fun e W' => e = .returned (.bool true) ∧ Below W.heap.size W W' := by
  have HV := Lib.hid hv
  clear hv
  go_enter Tryz.func6, Tryz.ntmps6
  go_wp2_with fail
  refine (works_any HV.out).mono ?_
  rintro e w1 ⟨rfl, hb⟩
  have HB1 := Lib.hid hb
  have HV1 := Lib.hid (HV.out.below hb)
  clear hb HV
  by_cases h3 : 3000 < a.size
  · have h3i : (a.size : Int) > 3000 := by omega
    go_wp2_with fail
    go_ret
    exact ⟨rfl, HB1.out⟩
  by_cases h4 : 3000 < b.size
  · have h3i : ¬ (a.size : Int) > 3000 := by omega
    have h4i : (b.size : Int) > 3000 := by omega
    go_wp2_with fail
    go_ret
    exact ⟨rfl, HB1.out⟩
  have h3i : ¬ (a.size : Int) > 3000 := by omega
  have h4i : ¬ (b.size : Int) > 3000 := by omega
  go_wp2_with fail
  refine (parse_any a ha w1 HV1.out).mono ?_
  rintro e w2 ⟨hpa, hb⟩
  have HB2 := Lib.hid (bel_to HB1.out HB1.out.size hb)
  have HV2 := Lib.hid (HV1.out.below hb)
  clear hb HB1 HV1
  rcases hpa with ⟨er2, at2, hpx, rfl⟩ | ⟨x, cs, hpx, rfl, hrd⟩
  · have hne : (er2 != 0) = true := bne_iff_ne.2 (parseB_err hpx)
    clear hpx
    have HB3 := Lib.hid (bel_to HB2.out HB2.out.size (bel_box w2 (.cells #[.slice none 0 0, .slice none 0 0, .slice none 0 0] 26)))
    have HV3 := Lib.hid (HV2.out.below (bel_box w2 (.cells #[.slice none 0 0, .slice none 0 0, .slice none 0 0] 26)))
    clear HB2 HV2
    go_wp2_with fail
    generalize w2.alloc (.cells #[.slice none 0 0, .slice none 0 0, .slice none 0 0] 26) = w3 at *
    refine (parse_any b hb0 w3 HV3.out).mono ?_
    rintro e w4 ⟨⟨er4, at4, hq4, rfl⟩ | ⟨x4, cs4, hq4, rfl, hrd⟩, hb⟩
    · skip
      have HBa := Lib.hid (bel_to HB3.out HB3.out.size hb)
      have HB5 := Lib.hid (bel_to HBa.out HBa.out.size (bel_box w4 (.cells #[.slice none 0 0, .slice none 0 0, .slice none 0 0] 26)))
      have HV5 := Lib.hid ((HV3.out.below hb).below (bel_box w4 (.cells #[.slice none 0 0, .slice none 0 0, .slice none 0 0] 26)))
      clear hb HBa HB3 HV3 hq4
      go_wp2_with fail
      generalize w4.alloc (.cells #[.slice none 0 0, .slice none 0 0, .slice none 0 0] 26) = w5 at *
      refine (lex_any b hb0 w5 HV5.out).mono ?_
      rintro e w6 ⟨⟨er6, at6, hq6, rfl⟩ | ⟨l6, v6, hq6, ho6, hlen6, rfl⟩, hb⟩
      · skip
        have HB6 := Lib.hid (bel_to HB5.out HB5.out.size hb)
        have HV6 := Lib.hid (HV5.out.below hb)
        clear hb HB5 HV5 hq6
        have hz1 : (a.size : Int) + 1 ≤ 9223372036854775807 := by omega
        have hz2 := glue_s2 h3 h4
        go_wp2_with fail
        refine (parse_any (a ++ nlB ++ b) (glue_sz h3 h4) w6 HV6.out).mono ?_
        rintro e w7 ⟨⟨er7, at7, hq7, rfl⟩ | ⟨x7, cs7, hq7, rfl, hrd⟩, hb⟩
        · skip
          have HBa := Lib.hid (bel_to HB6.out HB6.out.size hb)
          have HB8 := Lib.hid (bel_to HBa.out HBa.out.size (bel_box w7 (.cells #[.slice none 0 0, .slice none 0 0, .slice none 0 0] 26)))
          have HV8 := Lib.hid ((HV6.out.below hb).below (bel_box w7 (.cells #[.slice none 0 0, .slice none 0 0, .slice none 0 0] 26)))
          clear hb HBa HB6 HV6 hq7
          go_wp2_with fail
          go_ret
          exact ⟨rfl, HB8.out⟩
        · obtain ⟨A1, c1, A2, c2, A3, c3, rfl⟩ := src_form (Sees.of_rds hrd)
          clear hrd
          have HBa := Lib.hid (bel_to HB6.out HB6.out.size hb)
          have HB8 := Lib.hid (bel_to HBa.out HBa.out.size (bel_box w7 (.cells #[.slice A1 x7.ss.length c1, .slice A2 x7.es.length c2, .slice A3 x7.fs.length c3] 26)))
          have HV8 := Lib.hid ((HV6.out.below hb).below (bel_box w7 (.cells #[.slice A1 x7.ss.length c1, .slice A2 x7.es.length c2, .slice A3 x7.fs.length c3] 26)))
          clear hb HBa HB6 HV6 hq7
          go_wp2_with fail
          go_ret
          exact ⟨rfl, HB8.out⟩
      · obtain ⟨Al, cl, rfl⟩ := row_slice ho6
        have HB6 := Lib.hid (bel_to HB5.out HB5.out.size hb)
        have HV6 := Lib.hid (HV5.out.below hb)
        clear hb HB5 HV5 hq6 ho6
        have hz1 : (a.size : Int) + 1 ≤ 9223372036854775807 := by omega
        have hz2 := glue_s2 h3 h4
        go_wp2_with fail
        refine (parse_any (a ++ nlB ++ b) (glue_sz h3 h4) w6 HV6.out).mono ?_
        rintro e w7 ⟨⟨er7, at7, hq7, rfl⟩ | ⟨x7, cs7, hq7, rfl, hrd⟩, hb⟩
        · skip
          have HBa := Lib.hid (bel_to HB6.out HB6.out.size hb)
          have HB8 := Lib.hid (bel_to HBa.out HBa.out.size (bel_box w7 (.cells #[.slice none 0 0, .slice none 0 0, .slice none 0 0] 26)))
          have HV8 := Lib.hid ((HV6.out.below hb).below (bel_box w7 (.cells #[.slice none 0 0, .slice none 0 0, .slice none 0 0] 26)))
          clear hb HBa HB6 HV6 hq7
          go_wp2_with fail
          go_ret
          exact ⟨rfl, HB8.out⟩
        · obtain ⟨A1, c1, A2, c2, A3, c3, rfl⟩ := src_form (Sees.of_rds hrd)
          clear hrd
          have HBa := Lib.hid (bel_to HB6.out HB6.out.size hb)
          have HB8 := Lib.hid (bel_to HBa.out HBa.out.size (bel_box w7 (.cells #[.slice A1 x7.ss.length c1, .slice A2 x7.es.length c2, .slice A3 x7.fs.length c3] 26)))
          have HV8 := Lib.hid ((HV6.out.below hb).below (bel_box w7 (.cells #[.slice A1 x7.ss.length c1, .slice A2 x7.es.length c2, .slice A3 x7.fs.length c3] 26)))
          clear hb HBa HB6 HV6 hq7
          go_wp2_with fail
          go_ret
          exact ⟨rfl, HB8.out⟩
    · obtain ⟨A1, c1, A2, c2, A3, c3, rfl⟩ := src_form (Sees.of_rds hrd)
      clear hrd
      have HBa := Lib.hid (bel_to HB3.out HB3.out.size hb)
      have HB5 := Lib.hid (bel_to HBa.out HBa.out.size (bel_box w4 (.cells #[.slice A1 x4.ss.length c1, .slice A2 x4.es.length c2, .slice A3 x4.fs.length c3] 26)))
      have HV5 := Lib.hid ((HV3.out.below hb).below (bel_box w4 (.cells #[.slice A1 x4.ss.length c1, .slice A2 x4.es.length c2, .slice A3 x4.fs.length c3] 26)))
      clear hb HBa HB3 HV3 hq4
      go_wp2_with fail
      generalize w4.alloc (.cells #[.slice A1 x4.ss.length c1, .slice A2 x4.es.length c2, .slice A3 x4.fs.length c3] 26) = w5 at *
      refine (lex_any b hb0 w5 HV5.out).mono ?_
      rintro e w6 ⟨⟨er6, at6, hq6, rfl⟩ | ⟨l6, v6, hq6, ho6, hlen6, rfl⟩, hb⟩
      · skip
        have HB6 := Lib.hid (bel_to HB5.out HB5.out.size hb)
        have HV6 := Lib.hid (HV5.out.below hb)
        clear hb HB5 HV5 hq6
        have hz1 : (a.size : Int) + 1 ≤ 9223372036854775807 := by omega
        have hz2 := glue_s2 h3 h4
        go_wp2_with fail
        refine (parse_any (a ++ nlB ++ b) (glue_sz h3 h4) w6 HV6.out).mono ?_
        rintro e w7 ⟨⟨er7, at7, hq7, rfl⟩ | ⟨x7, cs7, hq7, rfl, hrd⟩, hb⟩
        · skip
          have HBa := Lib.hid (bel_to HB6.out HB6.out.size hb)
          have HB8 := Lib.hid (bel_to HBa.out HBa.out.size (bel_box w7 (.cells #[.slice none 0 0, .slice none 0 0, .slice none 0 0] 26)))
          have HV8 := Lib.hid ((HV6.out.below hb).below (bel_box w7 (.cells #[.slice none 0 0, .slice none 0 0, .slice none 0 0] 26)))
          clear hb HBa HB6 HV6 hq7
          go_wp2_with fail
          go_ret
          exact ⟨rfl, HB8.out⟩
        · obtain ⟨A1, c1, A2, c2, A3, c3, rfl⟩ := src_form (Sees.of_rds hrd)
          clear hrd
          have HBa := Lib.hid (bel_to HB6.out HB6.out.size hb)
          have HB8 := Lib.hid (bel_to HBa.out HBa.out.size (bel_box w7 (.cells #[.slice A1 x7.ss.length c1, .slice A2 x7.es.length c2, .slice A3 x7.fs.length c3] 26)))
          have HV8 := Lib.hid ((HV6.out.below hb).below (bel_box w7 (.cells #[.slice A1 x7.ss.length c1, .slice A2 x7.es.length c2, .slice A3 x7.fs.length c3] 26)))
          clear hb HBa HB6 HV6 hq7
          go_wp2_with fail
          go_ret
          exact ⟨rfl, HB8.out⟩
      · obtain ⟨Al, cl, rfl⟩ := row_slice ho6
        have HB6 := Lib.hid (bel_to HB5.out HB5.out.size hb)
        have HV6 := Lib.hid (HV5.out.below hb)
        clear hb HB5 HV5 hq6 ho6
        have hz1 : (a.size : Int) + 1 ≤ 9223372036854775807 := by omega
        have hz2 := glue_s2 h3 h4
        go_wp2_with fail
        refine (parse_any (a ++ nlB ++ b) (glue_sz h3 h4) w6 HV6.out).mono ?_
        rintro e w7 ⟨⟨er7, at7, hq7, rfl⟩ | ⟨x7, cs7, hq7, rfl, hrd⟩, hb⟩
        · skip
          have HBa := Lib.hid (bel_to HB6.out HB6.out.size hb)
          have HB8 := Lib.hid (bel_to HBa.out HBa.out.size (bel_box w7 (.cells #[.slice none 0 0, .slice none 0 0, .slice none 0 0] 26)))
          have HV8 := Lib.hid ((HV6.out.below hb).below (bel_box w7 (.cells #[.slice none 0 0, .slice none 0 0, .slice none 0 0] 26)))
          clear hb HBa HB6 HV6 hq7
          go_wp2_with fail
          go_ret
          exact ⟨rfl, HB8.out⟩
        · obtain ⟨A1, c1, A2, c2, A3, c3, rfl⟩ := src_form (Sees.of_rds hrd)
          clear hrd
          have HBa := Lib.hid (bel_to HB6.out HB6.out.size hb)
          have HB8 := Lib.hid (bel_to HBa.out HBa.out.size (bel_box w7 (.cells #[.slice A1 x7.ss.length c1, .slice A2 x7.es.length c2, .slice A3 x7.fs.length c3] 26)))
          have HV8 := Lib.hid ((HV6.out.below hb).below (bel_box w7 (.cells #[.slice A1 x7.ss.length c1, .slice A2 x7.es.length c2, .slice A3 x7.fs.length c3] 26)))
          clear hb HBa HB6 HV6 hq7
          go_wp2_with fail
          go_ret
          exact ⟨rfl, HB8.out⟩
  have hnx := parseB_n hpx
  have hsx := Sees.of_rds hrd
  obtain ⟨A1, c1, A2, c2, A3, c3, rfl⟩ := src_form hsx
  have hb := bel_box w2 (.cells #[.slice A1 x.ss.length c1, .slice A2 x.es.length c2, .slice A3 x.fs.length c3] 26)
  have HB3 := Lib.hid (bel_to HB2.out HB2.out.size hb)
  have HV3 := Lib.hid (HV2.out.below hb)
  have SX3 := Lib.hid (hsx.below hb)
  have BX3 : Hid (Bx 26 (w2.alloc (.cells #[.slice A1 x.ss.length c1, .slice A2 x.es.length c2, .slice A3 x.fs.length c3] 26)) w2.heap.size #[.slice A1 x.ss.length c1, .slice A2 x.es.length c2, .slice A3 x.fs.length c3]) := Lib.hid (Bx.newAt rfl)
  have HPX := Lib.hid hpx
  clear hb hsx hrd hpx HB2 HV2
  go_wp2_with fail
  generalize w2.alloc (.cells #[.slice A1 x.ss.length c1, .slice A2 x.es.length c2, .slice A3 x.fs.length c3] 26) = w3 at *
  generalize w2.heap.size = zx at *
  refine (parse_any b hb0 w3 HV3.out).mono ?_
  rintro e w4 ⟨hpb, hb⟩
  have HB4 := Lib.hid (bel_to HB3.out HB3.out.size hb)
  have HV4 := Lib.hid (HV3.out.below hb)
  have SX4 := Lib.hid (SX3.out.below hb)
  have BX4 := Lib.hid (BX3.out.below hb)
  clear hb HB3 HV3 SX3 BX3
  rcases hpb with ⟨er4, at4, hpy, rfl⟩ | ⟨y, cs, hpy, rfl, hrd⟩
  · have hne : (er4 != 0) = true := bne_iff_ne.2 (parseB_err hpy)
    have HPY := Lib.hid hpy
    clear hpy
    have HB5 := Lib.hid (bel_to HB4.out HB4.out.size (bel_box w4 (.cells #[.slice none 0 0, .slice none 0 0, .slice none 0 0] 26)))
    have HV5 := Lib.hid (HV4.out.below (bel_box w4 (.cells #[.slice none 0 0, .slice none 0 0, .slice none 0 0] 26)))
    clear HB4 HV4 SX4 BX4
    go_wp2_with fail
    generalize w4.alloc (.cells #[.slice none 0 0, .slice none 0 0, .slice none 0 0] 26) = w5 at *
    refine (lex_any b hb0 w5 HV5.out).mono ?_
    rintro e w6 ⟨⟨er6, at6, hq6, rfl⟩ | ⟨l6, v6, hq6, ho6, hlen6, rfl⟩, hb⟩
    · have hne6 : (er6 != 0) = true := bne_iff_ne.2 (lexB_err hq6)
      have HB6 := Lib.hid (bel_to HB5.out HB5.out.size hb)
      have HV6 := Lib.hid (HV5.out.below hb)
      clear hb HB5 HV5 hq6
      have hz1 : (a.size : Int) + 1 ≤ 9223372036854775807 := by omega
      have hz2 := glue_s2 h3 h4
      go_wp2_with fail
      refine (parse_any (a ++ nlB ++ b) (glue_sz h3 h4) w6 HV6.out).mono ?_
      rintro e w7 ⟨⟨er7, at7, hq7, rfl⟩ | ⟨x7, cs7, hq7, rfl, hrd⟩, hb⟩
      · skip
        have HBa := Lib.hid (bel_to HB6.out HB6.out.size hb)
        have HB8 := Lib.hid (bel_to HBa.out HBa.out.size (bel_box w7 (.cells #[.slice none 0 0, .slice none 0 0, .slice none 0 0] 26)))
        have HV8 := Lib.hid ((HV6.out.below hb).below (bel_box w7 (.cells #[.slice none 0 0, .slice none 0 0, .slice none 0 0] 26)))
        clear hb HBa HB6 HV6 hq7
        go_wp2_with fail
        go_ret
        exact ⟨rfl, HB8.out⟩
      · obtain ⟨A1, c1, A2, c2, A3, c3, rfl⟩ := src_form (Sees.of_rds hrd)
        clear hrd
        have HBa := Lib.hid (bel_to HB6.out HB6.out.size hb)
        have HB8 := Lib.hid (bel_to HBa.out HBa.out.size (bel_box w7 (.cells #[.slice A1 x7.ss.length c1, .slice A2 x7.es.length c2, .slice A3 x7.fs.length c3] 26)))
        have HV8 := Lib.hid ((HV6.out.below hb).below (bel_box w7 (.cells #[.slice A1 x7.ss.length c1, .slice A2 x7.es.length c2, .slice A3 x7.fs.length c3] 26)))
        clear hb HBa HB6 HV6 hq7
        go_wp2_with fail
        go_ret
        exact ⟨rfl, HB8.out⟩
    · obtain ⟨Al, cl, rfl⟩ := row_slice ho6
      have HB6 := Lib.hid (bel_to HB5.out HB5.out.size hb)
      have HV6 := Lib.hid (HV5.out.below hb)
      have hgl := glue_any (by omega) (by omega) HPX.out hq6
      have HZ : Hid (parseB (a ++ nlB ++ b) = .error (er4, (a.size : Int) + 1 + at4)) := Lib.hid (by
        rcases hgl with ⟨y, z, h1, h2, h3⟩ | ⟨f, k, h1, h2⟩
        · rw [HPY.out] at h1; cases h1
        · rw [HPY.out] at h1
          injection h1 with h1
          injection h1 with e1 e2
          subst e1 e2
          exact h2)
      have HQ6 := Lib.hid hq6
      clear hb HB5 HV5 hq6 ho6 hgl
      have hz1 : (a.size : Int) + 1 ≤ 9223372036854775807 := by omega
      have hz2 := glue_s2 h3 h4
      go_wp2_with fail
      refine (parse_any (a ++ nlB ++ b) (glue_sz h3 h4) w6 HV6.out).mono ?_
      rintro e w7 ⟨⟨er7, at7, hq, rfl⟩ | ⟨x7, cs7, hq, rfl, hrd⟩, hb⟩
      rotate_left
      · rw [HZ.out] at hq; cases hq
      rw [HZ.out] at hq
      injection hq with hq
      injection hq with e1 e2
      subst e1 e2
      have HB7 := Lib.hid (bel_to HB6.out HB6.out.size hb)
      have HB8 := Lib.hid (bel_to HB7.out HB7.out.size (bel_box w7 (.cells #[.slice none 0 0, .slice none 0 0, .slice none 0 0] 26)))
      clear hb HB6 HV6 HB7
      have hka := parse_at HQ6.out HPY.out
      have hw1 : IntKind.i64.wrap ((a.size : Int) + 1) = (a.size : Int) + 1 := by rw [IntKind.wrap_i64]; omega
      have hw2 : IntKind.i64.wrap ((a.size : Int) + 1 + at4) = (a.size : Int) + 1 + at4 := by rw [IntKind.wrap_i64]; omega
      have hw3 : wrap64 ((a.size : Int) + 1 + at4) = (a.size : Int) + 1 + at4 := by unfold wrap64; omega
      go_wp2_with fail
      go_ret
      exact ⟨rfl, HB8.out⟩
  have hny := parseB_n hpy
  have hsy := Sees.of_rds hrd
  obtain ⟨A4, c4, A5, c5, A6, c6, rfl⟩ := src_form hsy
  have hb := bel_box w4 (.cells #[.slice A4 y.ss.length c4, .slice A5 y.es.length c5, .slice A6 y.fs.length c6] 26)
  have HB5 := Lib.hid (bel_to HB4.out HB4.out.size hb)
  have HV5 := Lib.hid (HV4.out.below hb)
  have SX5 := Lib.hid (SX4.out.below hb)
  have BX5 := Lib.hid (BX4.out.below hb)
  have SY5 := Lib.hid (hsy.below hb)
  have BY5 : Hid (Bx 26 (w4.alloc (.cells #[.slice A4 y.ss.length c4, .slice A5 y.es.length c5, .slice A6 y.fs.length c6] 26)) w4.heap.size #[.slice A4 y.ss.length c4, .slice A5 y.es.length c5, .slice A6 y.fs.length c6]) := Lib.hid (Bx.newAt rfl)
  have HPY := Lib.hid hpy
  clear hb hsy hrd hpy HB4 HV4 SX4 BX4
  go_wp2_with fail
  generalize w4.alloc (.cells #[.slice A4 y.ss.length c4, .slice A5 y.es.length c5, .slice A6 y.fs.length c6] 26) = w5 at *
  generalize w4.heap.size = zy at *
  refine (lex_any b hb0 w5 HV5.out).mono ?_
  rintro e w6 ⟨⟨er6, at6, hq6, rfl⟩ | ⟨l6, v6, hq6, ho6, hlen6, rfl⟩, hb⟩
  · have := HPY.out
    rw [parseB, hq6] at this
    cases this
  obtain ⟨Al, cl, rfl⟩ := row_slice ho6
  have HB6 := Lib.hid (bel_to HB5.out HB5.out.size hb)
  have HV6 := Lib.hid (HV5.out.below hb)
  have SX6 := Lib.hid (SX5.out.below hb)
  have BX6 := Lib.hid (BX5.out.below hb)
  have SY6 := Lib.hid (SY5.out.below hb)
  have BY6 := Lib.hid (BY5.out.below hb)
  have hgl := glue_any (by omega) (by omega) HPX.out hq6
  have HZ : Hid (∃ z, parseB (a ++ nlB ++ b) = .ok z ∧ z.st = (sApp x y).st) := Lib.hid (by
    rcases hgl with ⟨y2, z, h1, h2, h3⟩ | ⟨f, k, h1, h2⟩
    · rw [HPY.out] at h1
      injection h1 with h1
      subst h1
      exact ⟨z, h2, h3⟩
    · rw [HPY.out] at h1; cases h1)
  clear hb HB5 HV5 hq6 ho6 hgl SX5 BX5 SY5 BY5
  have hz1 : (a.size : Int) + 1 ≤ 9223372036854775807 := by omega
  have hz2 := glue_s2 h3 h4
  go_wp2_with fail
  refine (parse_any (a ++ nlB ++ b) (glue_sz h3 h4) w6 HV6.out).mono ?_
  rintro e w7 ⟨⟨er7, at7, hq, rfl⟩ | ⟨z, cs7, hq, rfl, hrd⟩, hb⟩
  · obtain ⟨z, h5, _⟩ := HZ.out
    rw [h5] at hq; cases hq
  have hst : z.st = (sApp x y).st := by
    obtain ⟨z', h5, h6⟩ := HZ.out
    rw [h5] at hq
    injection hq with hq
    rw [← hq]; exact h6
  have HST := Lib.hid hst
  have hsz := Sees.of_rds hrd
  obtain ⟨A7, c7, A8, c8, A9, c9, rfl⟩ := src_form hsz
  have hb2 := bel_box w7 (.cells #[.slice A7 z.ss.length c7, .slice A8 z.es.length c8, .slice A9 z.fs.length c9] 26)
  have HB7 := Lib.hid (bel_to HB6.out HB6.out.size hb)
  have HB8 := Lib.hid (bel_to HB7.out HB7.out.size hb2)
  have SX8 := Lib.hid ((SX6.out.below hb).below hb2)
  have BX8 := Lib.hid ((BX6.out.below hb).below hb2)
  have SY8 := Lib.hid ((SY6.out.below hb).below hb2)
  have BY8 := Lib.hid ((BY6.out.below hb).below hb2)
  have SZ8 := Lib.hid (hsz.below hb2)
  have BZ8 : Hid (Bx 26 (w7.alloc (.cells #[.slice A7 z.ss.length c7, .slice A8 z.es.length c8, .slice A9 z.fs.length c9] 26)) w7.heap.size #[.slice A7 z.ss.length c7, .slice A8 z.es.length c8, .slice A9 z.fs.length c9]) := Lib.hid (Bx.newAt rfl)
  clear hb hb2 hrd hsz hq hst HZ HB6 HB7 HV6 SX6 BX6 SY6 BY6
  go_upto_region 10 with fail
  generalize w7.alloc (.cells #[.slice A7 z.ss.length c7, .slice A8 z.es.length c8, .slice A9 z.fs.length c9] 26) = w8 at *
  generalize w7.heap.size = zz at *
  obtain ⟨p1, p2, p3, hpe, px1, px2, px3⟩ := Src.open SX8.out
  simp only [List.cons.injEq, and_true] at hpe
  obtain ⟨rfl, rfl, rfl⟩ := hpe
  obtain ⟨p1, p2, p3, hpe, py1, py2, py3⟩ := Src.open SY8.out
  simp only [List.cons.injEq, and_true] at hpe
  obtain ⟨rfl, rfl, rfl⟩ := hpe
  have PX0 := Lib.hid px1
  have PX1 := Lib.hid px2
  have PX2 := Lib.hid px3
  have PY0 := Lib.hid py1
  have PY1 := Lib.hid py2
  have PY2 := Lib.hid py3
  have hnxs : x.ss.length + x.es.length + x.fs.length ≤ 3001 := by have h9 : srcN x = x.ss.length + x.es.length + x.fs.length := rfl; omega
  have hnys : y.ss.length + y.es.length + y.fs.length ≤ 3001 := by have h9 : srcN y = y.ss.length + y.es.length + y.fs.length := rfl; omega
  clear px1 px2 px3 py1 py2 py3 hnx hny HPX HPY
  go_upto_region 15 with fail
  have LOW0 := Lib.hid (bel_box w8 (.cells #[.slice none 0 0, .slice none 0 0, .slice none 0 0] 26))
  have HM0 : Hid (Bx 26 (w8.alloc (.cells #[.slice none 0 0, .slice none 0 0, .slice none 0 0] 26)) w8.heap.size #[.slice none 0 0, .slice none 0 0, .slice none 0 0]) := Lib.hid (Bx.newAt rfl)
  have hvs : (w8.alloc (.cells #[.slice none 0 0, .slice none 0 0, .slice none 0 0] 26)).heap.size = w8.heap.size + 1 := by simp
  obtain ⟨lX, cX, fX⟩ := (BX8.out.below LOW0.out).see
  obtain ⟨lY, cY, fY⟩ := (BY8.out.below LOW0.out).see
  obtain ⟨lm, cm, fm⟩ := HM0.out.see
  generalize w8.alloc (.cells #[.slice none 0 0, .slice none 0 0, .slice none 0 0] 26) = v0 at *
  have hzx := blk_lt BX8.out
  have hzy := blk_lt BY8.out
  obtain ⟨m, hm⟩ : ∃ m, m = w8.heap.size := ⟨_, rfl⟩
  have HMM := Lib.hid hm
  rw [← hm] at hvs hzx hzy HM0 lm cm fm
  rw [← hm]
  clear hm
  have nx : (zx = m) = False := eq_false (by omega)
  have nx' : (m = zx) = False := eq_false (by omega)
  have ny : (zy = m) = False := eq_false (by omega)
  have ny' : (m = zy) = False := eq_false (by omega)
  have hB0 : ∃ B, B = v0.heap.size := ⟨_, rfl⟩
  obtain ⟨B0, hB0⟩ := hB0
  have BU0 : Hid (Built w8 B0 v0 75 4 (.slice none 0 0) []) := Lib.hid (Built.nil (by have h := LOW0.out; exact h) (by have h := HMM.out; rw [hB0]; have h2 := LOW0.out.size; omega))
  have hBm0 : m + 1 ≤ B0 := by rw [hB0]; have h2 := LOW0.out.size; have h := HMM.out; have h3 := blk_lt HM0.out; omega
  have hBs0 : B0 ≤ v0.heap.size := Nat.le_of_eq hB0
  clear hB0
  go_upto_region 16 with (first
    | (at_builtin; refine Built.append_at (l := ([] : List (List D))) (l2 := (x.ss.map Str.d)) rfl (.tmp 84) (.tmp 86) 22 _ _ rfl Tryz.underlying22 info_Struct rfl (by decide) (by decide) rfl rfl BU0.out hBs0 PX0.out (all_one Str.d_one _) (by simp only [List.length_map, List.length_nil]; omega) ?_
       intro u1 y1 hbu hg hat
       obtain ⟨Aq1, cq1, rfl⟩ : ∃ A c, u1 = .slice A x.ss.length c := (by obtain ⟨A, c, h⟩ := hbu.slice; exact ⟨A, c, by rw [h]; simp⟩)
       have HMg := Lib.hid (HM0.out.grew hg (fun e => by have := BU0.out.lt _ e; omega))
       have hsg := hg.size
       obtain ⟨lm, cm, fm⟩ := HMg.out.see))
  have HM1 : Hid (Bx 26 (y1.setCell ⟨m, 0, none⟩ (.slice Aq1 x.ss.length cq1)) m #[(.slice Aq1 x.ss.length cq1), .slice none 0 0, .slice none 0 0]) := Lib.hid (HMg.out.set 0 _)
  have BU1 : Hid (Built w8 B0 (y1.setCell ⟨m, 0, none⟩ (.slice Aq1 x.ss.length cq1)) 75 4 (.slice Aq1 x.ss.length cq1) (([] : List (List D)) ++ (x.ss.map Str.d))) := Lib.hid (hbu.move (fun kk hkk => Below.heap_setCell y1 _ _ kk (by have := (hbu.lt kk hkk).1; simp only; omega)) (bel_set hbu.low (by have := HMM.out; simp only; omega) _))
  have LOW1 : Hid (Below w8.heap.size w8 (y1.setCell ⟨m, 0, none⟩ (.slice Aq1 x.ss.length cq1))) := Lib.hid BU1.out.low
  have hBs1 : B0 ≤ (y1.setCell ⟨m, 0, none⟩ (.slice Aq1 x.ss.length cq1)).heap.size := by rw [World.size_setCell]; omega
  have gX := (BX8.out.below LOW1.out)
  have gY := (BY8.out.below LOW1.out)
  clear hbu hg hat lX cX fX lY cY fY lm cm fm HMg hsg HM0 BU0 LOW0 hBs0
  obtain ⟨lX, cX, fX⟩ := gX.see
  obtain ⟨lY, cY, fY⟩ := gY.see
  obtain ⟨lm, cm, fm⟩ := HM1.out.see
  clear gX gY
  generalize (y1.setCell ⟨m, 0, none⟩ (.slice Aq1 x.ss.length cq1)) = v1 at *
  go_upto_region 17 with (first
    | (at_builtin; refine Built.append_at (l := (x.ss.map Str.d)) (l2 := (y.ss.map Str.d)) rfl (.tmp 90) (.tmp 92) 22 _ _ rfl Tryz.underlying22 info_Struct rfl (by decide) (by decide) rfl rfl BU1.out hBs1 PY0.out (all_one Str.d_one _) (by simp only [List.length_map, List.length_nil]; omega) ?_
       intro u2 y2 hbu hg hat
       obtain ⟨Aq2, cq2, rfl⟩ : ∃ A c, u2 = .slice A (x.ss.length + y.ss.length) c := (by obtain ⟨A, c, h⟩ := hbu.slice; exact ⟨A, c, by rw [h]; simp⟩)
       have HMg := Lib.hid (HM1.out.grew hg (fun e => by have := BU1.out.lt _ e; omega))
       have hsg := hg.size
       obtain ⟨lm, cm, fm⟩ := HMg.out.see))
  have HM2 : Hid (Bx 26 (y2.setCell ⟨m, 0, none⟩ (.slice Aq2 (x.ss.length + y.ss.length) cq2)) m #[(.slice Aq2 (x.ss.length + y.ss.length) cq2), .slice none 0 0, .slice none 0 0]) := Lib.hid (HMg.out.set 0 _)
  have BU2 : Hid (Built w8 B0 (y2.setCell ⟨m, 0, none⟩ (.slice Aq2 (x.ss.length + y.ss.length) cq2)) 75 4 (.slice Aq2 (x.ss.length + y.ss.length) cq2) ((x.ss.map Str.d) ++ (y.ss.map Str.d))) := Lib.hid (hbu.move (fun kk hkk => Below.heap_setCell y2 _ _ kk (by have := (hbu.lt kk hkk).1; simp only; omega)) (bel_set hbu.low (by have := HMM.out; simp only; omega) _))
  have LOW2 : Hid (Below w8.heap.size w8 (y2.setCell ⟨m, 0, none⟩ (.slice Aq2 (x.ss.length + y.ss.length) cq2))) := Lib.hid BU2.out.low
  have FB0_2 := BU2
  have hBs2 : B0 ≤ (y2.setCell ⟨m, 0, none⟩ (.slice Aq2 (x.ss.length + y.ss.length) cq2)).heap.size := by rw [World.size_setCell]; omega
  have gX := (BX8.out.below LOW2.out)
  have gY := (BY8.out.below LOW2.out)
  clear hbu hg hat lX cX fX lY cY fY lm cm fm HMg hsg HM1 BU1 LOW1 hBs1
  obtain ⟨lX, cX, fX⟩ := gX.see
  obtain ⟨lY, cY, fY⟩ := gY.see
  obtain ⟨lm, cm, fm⟩ := HM2.out.see
  clear gX gY
  generalize (y2.setCell ⟨m, 0, none⟩ (.slice Aq2 (x.ss.length + y.ss.length) cq2)) = v2 at *
  have hB1 : ∃ B, B = v2.heap.size := ⟨_, rfl⟩
  obtain ⟨B1, hB1⟩ := hB1
  have BU2 : Hid (Built w8 B1 v2 85 3 (.slice none 0 0) []) := Lib.hid (Built.nil (by have h := LOW2.out; exact h) (by have h := HMM.out; rw [hB1]; have h2 := LOW2.out.size; omega))
  have hBm1 : m + 1 ≤ B1 := by rw [hB1]; have h2 := LOW2.out.size; have h := HMM.out; have h3 := blk_lt HM2.out; omega
  have hBs2 : B1 ≤ v2.heap.size := Nat.le_of_eq hB1
  have hlt0_1 : ∀ kk, ((.slice Aq2 (x.ss.length + y.ss.length) cq2) : Value).ownBlock = some kk → kk < B1 := fun kk hkk => by rw [hB1]; exact (FB0_2.out.lt kk hkk).2
  clear hB1
  go_upto_region 18 with (first
    | (at_builtin; refine Built.append_at (l := ([] : List (List D))) (l2 := (x.es.map Enm.d)) rfl (.tmp 96) (.tmp 98) 23 _ _ rfl Tryz.underlying23 info_Enum rfl (by decide) (by decide) rfl rfl BU2.out hBs2 PX1.out (all_one Enm.d_one _) (by simp only [List.length_map, List.length_nil]; omega) ?_
       intro u3 y3 hbu hg hat
       obtain ⟨Aq3, cq3, rfl⟩ : ∃ A c, u3 = .slice A x.es.length c := (by obtain ⟨A, c, h⟩ := hbu.slice; exact ⟨A, c, by rw [h]; simp⟩)
       have HMg := Lib.hid (HM2.out.grew hg (fun e => by have := BU2.out.lt _ e; omega))
       have hsg := hg.size
       obtain ⟨lm, cm, fm⟩ := HMg.out.see))
  have HM3 : Hid (Bx 26 (y3.setCell ⟨m, 1, none⟩ (.slice Aq3 x.es.length cq3)) m #[(.slice Aq2 (x.ss.length + y.ss.length) cq2), (.slice Aq3 x.es.length cq3), .slice none 0 0]) := Lib.hid (HMg.out.set 1 _)
  have BU3 : Hid (Built w8 B1 (y3.setCell ⟨m, 1, none⟩ (.slice Aq3 x.es.length cq3)) 85 3 (.slice Aq3 x.es.length cq3) (([] : List (List D)) ++ (x.es.map Enm.d))) := Lib.hid (hbu.move (fun kk hkk => Below.heap_setCell y3 _ _ kk (by have := (hbu.lt kk hkk).1; simp only; omega)) (bel_set hbu.low (by have := HMM.out; simp only; omega) _))
  have LOW3 : Hid (Below w8.heap.size w8 (y3.setCell ⟨m, 1, none⟩ (.slice Aq3 x.es.length cq3))) := Lib.hid BU3.out.low
  have FB0_3 : Hid (Built w8 B0 (y3.setCell ⟨m, 1, none⟩ (.slice Aq3 x.es.length cq3)) 75 4 (.slice Aq2 (x.ss.length + y.ss.length) cq2) _) := Lib.hid (FB0_2.out.move (fun kk hkk => (Below.heap_setCell y3 _ _ kk (by have := (FB0_2.out.lt kk hkk).1; simp only; omega)).trans (hg.block kk (FB0_2.out.lt kk hkk).2 (fun e => by have h7 := BU2.out.lt kk e.symm; have h8 := hlt0_1 kk hkk; omega))) LOW3.out)
  have hBs3 : B1 ≤ (y3.setCell ⟨m, 1, none⟩ (.slice Aq3 x.es.length cq3)).heap.size := by rw [World.size_setCell]; omega
  have gX := (BX8.out.below LOW3.out)
  have gY := (BY8.out.below LOW3.out)
  clear hbu hg hat lX cX fX lY cY fY lm cm fm HMg hsg HM2 BU2 LOW2 hBs2 FB0_2
  obtain ⟨lX, cX, fX⟩ := gX.see
  obtain ⟨lY, cY, fY⟩ := gY.see
  obtain ⟨lm, cm, fm⟩ := HM3.out.see
  clear gX gY
  generalize (y3.setCell ⟨m, 1, none⟩ (.slice Aq3 x.es.length cq3)) = v3 at *
  go_upto_region 19 with (first
    | (at_builtin; refine Built.append_at (l := (x.es.map Enm.d)) (l2 := (y.es.map Enm.d)) rfl (.tmp 102) (.tmp 104) 23 _ _ rfl Tryz.underlying23 info_Enum rfl (by decide) (by decide) rfl rfl BU3.out hBs3 PY1.out (all_one Enm.d_one _) (by simp only [List.length_map, List.length_nil]; omega) ?_
       intro u4 y4 hbu hg hat
       obtain ⟨Aq4, cq4, rfl⟩ : ∃ A c, u4 = .slice A (x.es.length + y.es.length) c := (by obtain ⟨A, c, h⟩ := hbu.slice; exact ⟨A, c, by rw [h]; simp⟩)
       have HMg := Lib.hid (HM3.out.grew hg (fun e => by have := BU3.out.lt _ e; omega))
       have hsg := hg.size
       obtain ⟨lm, cm, fm⟩ := HMg.out.see))
  have HM4 : Hid (Bx 26 (y4.setCell ⟨m, 1, none⟩ (.slice Aq4 (x.es.length + y.es.length) cq4)) m #[(.slice Aq2 (x.ss.length + y.ss.length) cq2), (.slice Aq4 (x.es.length + y.es.length) cq4), .slice none 0 0]) := Lib.hid (HMg.out.set 1 _)
  have BU4 : Hid (Built w8 B1 (y4.setCell ⟨m, 1, none⟩ (.slice Aq4 (x.es.length + y.es.length) cq4)) 85 3 (.slice Aq4 (x.es.length + y.es.length) cq4) ((x.es.map Enm.d) ++ (y.es.map Enm.d))) := Lib.hid (hbu.move (fun kk hkk => Below.heap_setCell y4 _ _ kk (by have := (hbu.lt kk hkk).1; simp only; omega)) (bel_set hbu.low (by have := HMM.out; simp only; omega) _))
  have LOW4 : Hid (Below w8.heap.size w8 (y4.setCell ⟨m, 1, none⟩ (.slice Aq4 (x.es.length + y.es.length) cq4))) := Lib.hid BU4.out.low
  have FB0_4 : Hid (Built w8 B0 (y4.setCell ⟨m, 1, none⟩ (.slice Aq4 (x.es.length + y.es.length) cq4)) 75 4 (.slice Aq2 (x.ss.length + y.ss.length) cq2) _) := Lib.hid (FB0_3.out.move (fun kk hkk => (Below.heap_setCell y4 _ _ kk (by have := (FB0_3.out.lt kk hkk).1; simp only; omega)).trans (hg.block kk (FB0_3.out.lt kk hkk).2 (fun e => by have h7 := BU3.out.lt kk e.symm; have h8 := hlt0_1 kk hkk; omega))) LOW4.out)
  have FB1_4 := BU4
  have hBs4 : B1 ≤ (y4.setCell ⟨m, 1, none⟩ (.slice Aq4 (x.es.length + y.es.length) cq4)).heap.size := by rw [World.size_setCell]; omega
  have gX := (BX8.out.below LOW4.out)
  have gY := (BY8.out.below LOW4.out)
  clear hbu hg hat lX cX fX lY cY fY lm cm fm HMg hsg HM3 BU3 LOW3 hBs3 FB0_3
  obtain ⟨lX, cX, fX⟩ := gX.see
  obtain ⟨lY, cY, fY⟩ := gY.see
  obtain ⟨lm, cm, fm⟩ := HM4.out.see
  clear gX gY
  generalize (y4.setCell ⟨m, 1, none⟩ (.slice Aq4 (x.es.length + y.es.length) cq4)) = v4 at *
  have hB2 : ∃ B, B = v4.heap.size := ⟨_, rfl⟩
  obtain ⟨B2, hB2⟩ := hB2
  have BU4 : Hid (Built w8 B2 v4 50 4 (.slice none 0 0) []) := Lib.hid (Built.nil (by have h := LOW4.out; exact h) (by have h := HMM.out; rw [hB2]; have h2 := LOW4.out.size; omega))
  have hBm2 : m + 1 ≤ B2 := by rw [hB2]; have h2 := LOW4.out.size; have h := HMM.out; have h3 := blk_lt HM4.out; omega
  have hBs4 : B2 ≤ v4.heap.size := Nat.le_of_eq hB2
  have hlt0_2 : ∀ kk, ((.slice Aq2 (x.ss.length + y.ss.length) cq2) : Value).ownBlock = some kk → kk < B2 := fun kk hkk => by rw [hB2]; exact (FB0_4.out.lt kk hkk).2
  have hlt1_2 : ∀ kk, ((.slice Aq4 (x.es.length + y.es.length) cq4) : Value).ownBlock = some kk → kk < B2 := fun kk hkk => by rw [hB2]; exact (FB1_4.out.lt kk hkk).2
  clear hB2
  go_upto_region 20 with (first
    | (at_builtin; refine Built.append_at (l := ([] : List (List D))) (l2 := (x.fs.map Fnc.d)) rfl (.tmp 108) (.tmp 110) 24 _ _ rfl Tryz.underlying24 info_Fn rfl (by decide) (by decide) rfl rfl BU4.out hBs4 PX2.out (all_one Fnc.d_one _) (by simp only [List.length_map, List.length_nil]; omega) ?_
       intro u5 y5 hbu hg hat
       obtain ⟨Aq5, cq5, rfl⟩ : ∃ A c, u5 = .slice A x.fs.length c := (by obtain ⟨A, c, h⟩ := hbu.slice; exact ⟨A, c, by rw [h]; simp⟩)
       have HMg := Lib.hid (HM4.out.grew hg (fun e => by have := BU4.out.lt _ e; omega))
       have hsg := hg.size
       obtain ⟨lm, cm, fm⟩ := HMg.out.see))
  have HM5 : Hid (Bx 26 (y5.setCell ⟨m, 2, none⟩ (.slice Aq5 x.fs.length cq5)) m #[(.slice Aq2 (x.ss.length + y.ss.length) cq2), (.slice Aq4 (x.es.length + y.es.length) cq4), (.slice Aq5 x.fs.length cq5)]) := Lib.hid (HMg.out.set 2 _)
  have BU5 : Hid (Built w8 B2 (y5.setCell ⟨m, 2, none⟩ (.slice Aq5 x.fs.length cq5)) 50 4 (.slice Aq5 x.fs.length cq5) (([] : List (List D)) ++ (x.fs.map Fnc.d))) := Lib.hid (hbu.move (fun kk hkk => Below.heap_setCell y5 _ _ kk (by have := (hbu.lt kk hkk).1; simp only; omega)) (bel_set hbu.low (by have := HMM.out; simp only; omega) _))
  have LOW5 : Hid (Below w8.heap.size w8 (y5.setCell ⟨m, 2, none⟩ (.slice Aq5 x.fs.length cq5))) := Lib.hid BU5.out.low
  have FB0_5 : Hid (Built w8 B0 (y5.setCell ⟨m, 2, none⟩ (.slice Aq5 x.fs.length cq5)) 75 4 (.slice Aq2 (x.ss.length + y.ss.length) cq2) _) := Lib.hid (FB0_4.out.move (fun kk hkk => (Below.heap_setCell y5 _ _ kk (by have := (FB0_4.out.lt kk hkk).1; simp only; omega)).trans (hg.block kk (FB0_4.out.lt kk hkk).2 (fun e => by have h7 := BU4.out.lt kk e.symm; have h8 := hlt0_2 kk hkk; omega))) LOW5.out)
  have FB1_5 : Hid (Built w8 B1 (y5.setCell ⟨m, 2, none⟩ (.slice Aq5 x.fs.length cq5)) 85 3 (.slice Aq4 (x.es.length + y.es.length) cq4) _) := Lib.hid (FB1_4.out.move (fun kk hkk => (Below.heap_setCell y5 _ _ kk (by have := (FB1_4.out.lt kk hkk).1; simp only; omega)).trans (hg.block kk (FB1_4.out.lt kk hkk).2 (fun e => by have h7 := BU4.out.lt kk e.symm; have h8 := hlt1_2 kk hkk; omega))) LOW5.out)
  have hBs5 : B2 ≤ (y5.setCell ⟨m, 2, none⟩ (.slice Aq5 x.fs.length cq5)).heap.size := by rw [World.size_setCell]; omega
  have gX := (BX8.out.below LOW5.out)
  have gY := (BY8.out.below LOW5.out)
  clear hbu hg hat lX cX fX lY cY fY lm cm fm HMg hsg HM4 BU4 LOW4 hBs4 FB0_4 FB1_4
  obtain ⟨lX, cX, fX⟩ := gX.see
  obtain ⟨lY, cY, fY⟩ := gY.see
  obtain ⟨lm, cm, fm⟩ := HM5.out.see
  clear gX gY
  generalize (y5.setCell ⟨m, 2, none⟩ (.slice Aq5 x.fs.length cq5)) = v5 at *
  go_upto_region 21 with (first
    | (at_builtin; refine Built.append_at (l := (x.fs.map Fnc.d)) (l2 := (y.fs.map Fnc.d)) rfl (.tmp 114) (.tmp 116) 24 _ _ rfl Tryz.underlying24 info_Fn rfl (by decide) (by decide) rfl rfl BU5.out hBs5 PY2.out (all_one Fnc.d_one _) (by simp only [List.length_map, List.length_nil]; omega) ?_
       intro u6 y6 hbu hg hat
       obtain ⟨Aq6, cq6, rfl⟩ : ∃ A c, u6 = .slice A (x.fs.length + y.fs.length) c := (by obtain ⟨A, c, h⟩ := hbu.slice; exact ⟨A, c, by rw [h]; simp⟩)
       have HMg := Lib.hid (HM5.out.grew hg (fun e => by have := BU5.out.lt _ e; omega))
       have hsg := hg.size
       obtain ⟨lm, cm, fm⟩ := HMg.out.see))
  have HM6 : Hid (Bx 26 (y6.setCell ⟨m, 2, none⟩ (.slice Aq6 (x.fs.length + y.fs.length) cq6)) m #[(.slice Aq2 (x.ss.length + y.ss.length) cq2), (.slice Aq4 (x.es.length + y.es.length) cq4), (.slice Aq6 (x.fs.length + y.fs.length) cq6)]) := Lib.hid (HMg.out.set 2 _)
  have BU6 : Hid (Built w8 B2 (y6.setCell ⟨m, 2, none⟩ (.slice Aq6 (x.fs.length + y.fs.length) cq6)) 50 4 (.slice Aq6 (x.fs.length + y.fs.length) cq6) ((x.fs.map Fnc.d) ++ (y.fs.map Fnc.d))) := Lib.hid (hbu.move (fun kk hkk => Below.heap_setCell y6 _ _ kk (by have := (hbu.lt kk hkk).1; simp only; omega)) (bel_set hbu.low (by have := HMM.out; simp only; omega) _))
  have LOW6 : Hid (Below w8.heap.size w8 (y6.setCell ⟨m, 2, none⟩ (.slice Aq6 (x.fs.length + y.fs.length) cq6))) := Lib.hid BU6.out.low
  have FB0_6 : Hid (Built w8 B0 (y6.setCell ⟨m, 2, none⟩ (.slice Aq6 (x.fs.length + y.fs.length) cq6)) 75 4 (.slice Aq2 (x.ss.length + y.ss.length) cq2) _) := Lib.hid (FB0_5.out.move (fun kk hkk => (Below.heap_setCell y6 _ _ kk (by have := (FB0_5.out.lt kk hkk).1; simp only; omega)).trans (hg.block kk (FB0_5.out.lt kk hkk).2 (fun e => by have h7 := BU5.out.lt kk e.symm; have h8 := hlt0_2 kk hkk; omega))) LOW6.out)
  have FB1_6 : Hid (Built w8 B1 (y6.setCell ⟨m, 2, none⟩ (.slice Aq6 (x.fs.length + y.fs.length) cq6)) 85 3 (.slice Aq4 (x.es.length + y.es.length) cq4) _) := Lib.hid (FB1_5.out.move (fun kk hkk => (Below.heap_setCell y6 _ _ kk (by have := (FB1_5.out.lt kk hkk).1; simp only; omega)).trans (hg.block kk (FB1_5.out.lt kk hkk).2 (fun e => by have h7 := BU5.out.lt kk e.symm; have h8 := hlt1_2 kk hkk; omega))) LOW6.out)
  have FB2_6 := BU6
  have hBs6 : B2 ≤ (y6.setCell ⟨m, 2, none⟩ (.slice Aq6 (x.fs.length + y.fs.length) cq6)).heap.size := by rw [World.size_setCell]; omega
  have gX := (BX8.out.below LOW6.out)
  have gY := (BY8.out.below LOW6.out)
  clear hbu hg hat lX cX fX lY cY fY lm cm fm HMg hsg HM5 BU5 LOW5 hBs5 FB0_5 FB1_5
  obtain ⟨lX, cX, fX⟩ := gX.see
  obtain ⟨lY, cY, fY⟩ := gY.see
  obtain ⟨lm, cm, fm⟩ := HM6.out.see
  clear gX gY
  generalize (y6.setCell ⟨m, 2, none⟩ (.slice Aq6 (x.fs.length + y.fs.length) cq6)) = v6 at *
  have SZ := Lib.hid (SZ8.out.below LOW6.out)
  obtain ⟨lZ, cZ, fZ⟩ := (BZ8.out.below LOW6.out).see
  have hal : Sees v6 [.slice Aq2 (x.ss.length + y.ss.length) cq2, .slice Aq4 (x.es.length + y.es.length) cq4, .slice Aq6 (x.fs.length + y.fs.length) cq6] (sApp x y).d :=
    ⟨by simpa [sApp] using FB0_6.out.see, by simpa [sApp] using FB1_6.out.see, by simpa [sApp] using FB2_6.out.see, trivial⟩
  have HAL := Lib.hid hal
  have HB9 := Lib.hid (bel_to HB8.out HB8.out.size LOW6.out)
  clear hal FB0_6 FB1_6 FB2_6 BU6 LOW6 hBs6
  go_wp2_with fail
  refine (same_any HST.out _ _ v6 SZ.out HAL.out).mono ?_
  rintro e v7 ⟨rfl, hb⟩
  have HB10 := Lib.hid (bel_to HB9.out HB9.out.size hb)
  clear hb
  go_wp2_with fail
  go_ret
  exact ⟨rfl, HB10.out⟩
end Go.Proofs.YtjoiflokekebkaaGreatDoor
