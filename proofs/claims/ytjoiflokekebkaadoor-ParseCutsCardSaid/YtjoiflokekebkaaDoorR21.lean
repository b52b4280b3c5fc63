/- The walk of ParseCuts. -/
import Derived.Test.YtjoiflokekebkaaDoorR20
import Derived.Test.YtjoiflokekebkaaDoorP3
import Derived.Test.YtjoiflokekebkaaDoorP4
set_option linter.all false
namespace Go.Proofs.YtjoiflokekebkaaDoor
open Go.RowKit

set_option maxRecDepth 100000 in
set_option maxHeartbeats 8000000 in
theorem parseCuts_walk (s : ByteArray) (hs : s.size ≤ 9000000000000000000) (W : World) (hv : HasErr W) : Calls Tryd.prog 4 #[.string s] W fun e W' => e = .returned (.bool true) ∧ Below W.heap.size W W' := by
  have HV := Lib.hid hv
  clear hv
  go_enter Tryd.func4, Tryd.ntmps4
  go_wp2_with fail
  refine (works_any HV.out).mono ?_
  rintro e w1 ⟨rfl, hb⟩
  have HB := Lib.hid hb
  have HV1 := Lib.hid (HV.out.below hb)
  clear hb HV
  by_cases h3 : 3000 < s.size
  · have h3i : (s.size : Int) > 3000 := by omega
    go_wp2_with fail
    go_ret
    exact ⟨rfl, HB.out⟩
  have h3i : ¬ (s.size : Int) > 3000 := by omega
  go_wp2_with fail
  refine (lex_any s hs w1 HV1.out).mono ?_
  rintro e w2 ⟨hlex, hb⟩
  have HV2 := Lib.hid (HV1.out.below hb)
  have HB2 := Lib.hid (HB.out.trans (hb.mono HB.out.size))
  clear hb HV1 HB
  obtain ⟨er, at_, hp, rfl⟩ | ⟨l, v, hp, ho, hlen, rfl⟩ := hlex
  · have hne : (er != 0) = true := bne_iff_ne.2 (lexB_err hp)
    have HL := Lib.hid hp
    clear hp
    go_wp2_with fail
    refine (parse_any s hs w2 HV2.out).mono ?_
    rintro e w3 ⟨⟨er2, at2, hq, rfl⟩ | ⟨x, cs, hq, rfl, hrd⟩, hb⟩
    · have HB3 := Lib.hid (HB2.out.trans (hb.mono HB2.out.size))
      have HB4 := Lib.hid (HB3.out.alloc HB3.out.size (.cells #[.slice none 0 0, .slice none 0 0, .slice none 0 0] 31))
      clear hb hq HB3
      go_wp2_with fail
      go_ret
      exact ⟨rfl, HB4.out⟩
    · rw [parseB, HL.out] at hq
      cases hq
  · obtain ⟨A, c, rfl⟩ := row_slice ho
    have HO := Lib.hid ho
    have HL := Lib.hid hp
    clear ho hp
    go_wp2_with fail
    refine (parse_any s hs w2 HV2.out).mono ?_
    rintro e w3 ⟨⟨er2, at2, hq, rfl⟩ | ⟨x, cs, hq, rfl, hrd⟩, hb⟩
    · have hne : (er2 != 0) = true := bne_iff_ne.2 (parseB_err hq)
      have HB3 := Lib.hid (HB2.out.trans (hb.mono HB2.out.size))
      have HB4 := Lib.hid (HB3.out.alloc HB3.out.size (.cells #[.slice none 0 0, .slice none 0 0, .slice none 0 0] 31))
      clear hb hq HB3
      go_wp2_with fail
      go_ret
      exact ⟨rfl, HB4.out⟩
    · obtain ⟨A1, c1, A2, c2, A3, c3, rfl⟩ := src_open hrd
      have HQ := Lib.hid hq
      have HB3 := Lib.hid (HB2.out.trans (hb.mono HB2.out.size))
      have HB4 := Lib.hid (HB3.out.alloc HB3.out.size (.cells #[.slice A1 x.ss.length c1, .slice A2 x.es.length c2, .slice A3 x.fs.length c3] 31))
      have HV3 := Lib.hid (HV2.out.below hb)
      have HO3 := Lib.hid (row_below HO.out hb)
      clear hb hq hrd HB3 HO HV2 HB2
      by_cases h2 : l.length < 2
      · have h2i : (l.length : Int) < 2 := by omega
        go_wp2_with fail
        go_ret
        exact ⟨rfl, HB4.out⟩
      have h2i : ¬ (l.length : Int) < 2 := by omega
      have hx : ∃ us, itemsP (l.length + 1) .zero l = .ok (x, us) := by
        have h := HQ.out
        rw [parseB, HL.out] at h
        simp only at h
        cases hi : itemsP (l.length + 1) .zero l with
        | error e => rw [hi] at h; cases h
        | ok r => rw [hi] at h; simp only at h; injection h with h; exact ⟨r.2, by rw [← h]⟩
      obtain ⟨us, hx⟩ := hx
      obtain ⟨t, p, hget, hbr, hat, hps, hcut⟩ := cuts HL.out hx (by omega)
      obtain ⟨n, hn⟩ : ∃ n, n = l.length - 2 := ⟨_, rfl⟩
      rw [← hn] at hget
      have hnat : ((l.length : Int) - 2).toNat = n := by omega
      have hlt : n < l.length := by omega
      obtain ⟨g, hA, _, hgs, _, hcell⟩ := row_at HO3.out (by omega)
      subst hA
      obtain ⟨k0, k1, k2, k3⟩ := tcells_at l n t hget
      rw [hbr] at k1
      rw [hat] at k3
      have kk3 := hcell _ _ k3
      have kk1 := hcell _ _ k1
      rw [hn] at kk3 kk1
      rw [hn] at k1
      have K1 := Lib.hid k1
      have HC := Lib.hid hcut
      clear hcell k0 k1 k2 k3 hget hx hcut hnat hlt hn
      go_wp2_with fail
      have hsc : (s.extract 0 p).size = p := by simp; omega
      have hbz := (Below.refl w3.heap.size w3).alloc (Nat.le_refl _) (.cells #[.slice A1 x.ss.length c1, .slice A2 x.es.length c2, .slice A3 x.fs.length c3] 31)
      have HOz := Lib.hid (row_below HO3.out hbz)
      have HVz := Lib.hid (HV3.out.below hbz)
      clear hbz
      refine (parse_any (s.extract 0 p) (by omega) _ HVz.out).mono ?_
      rintro e w5 ⟨⟨er2, at2, hq, rfl⟩ | ⟨x2, cs, hq, rfl, hrd⟩, hb⟩
      rotate_left
      · rw [HC.out] at hq
        cases hq
      rw [HC.out] at hq
      injection hq with hq
      injection hq with h8 h9
      subst h8 h9
      obtain ⟨g', hA', _, _, _, hcell5⟩ := row_at (row_below HOz.out hb) (by omega)
      injection hA' with hA'
      injection hA' with hA'
      subst hA'
      have kk5 : w5.cell? ⟨g, (l.length - 2) * 4 + 1, none⟩ = some (.string ⟨#[125]⟩) := hcell5 _ _ K1.out
      have HB5 := Lib.hid (HB4.out.trans (hb.mono HB4.out.size))
      have HB6 := Lib.hid (HB5.out.alloc HB5.out.size (.cells #[.slice none 0 0, .slice none 0 0, .slice none 0 0] 31))
      clear hb hcell5 HOz HVz HC K1 HB4 HB5 HO3 HV3 HL HQ kk1 kk3
      go_wp2_with fail
      go_ret
      exact ⟨rfl, HB6.out⟩
end Go.Proofs.YtjoiflokekebkaaDoor
