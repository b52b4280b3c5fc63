/- MemCopies: words that are copied are as they were, also if the pieces overlap; if one of them was never stored nothing changes. The walk of the law. -/
import Derived.Test.YtkgiddpeaebdfaaOpen
import Derived.Test.YtkgiddpeaebdfaaW12
import Derived.Deep.RegionWith
import Derived.LoopTactic
namespace Go.Proofs.Ytkgiddpeaebdfaa
open Go.RowKit

/-- A memory of one allocation of k words: what is stored there. -/
structure Cv (k : Nat) (S : Me) (f : Nat → Option Wd) : Prop where
  one : S.bs.length = 1
  fr : (S.at 1).freed = false
  len : (S.at 1).ws.length = k
  slen : (S.at 1).st.length = k
  get : ∀ i, i < k → (S.at 1).st.getD i false = (f i).isSome ∧ ∀ x, f i = some x → (S.at 1).ws.getD i Wd.zero = x

theorem setAt_at {S : Me} (b : Bk) (h : S.bs.length = 1) : (S.setAt 1 b).at 1 = b := by
  obtain ⟨room, used, live, bs⟩ := S
  match bs, h with
  | [x], _ => rfl

section
variable {k : Nat} {S : Me} {f : Nat → Option Wd}
theorem Cv.piece (h : Cv k S f) {n j : Int} (h0 : 0 ≤ n) (h1 : n ≤ k - j) (_h2 : 0 ≤ j) : S.pieceE true 1 n j = 0 := by
  have hb : S.blockE true 1 = 0 := by simp [Me.blockE, h.one, h.fr]
  rw [Me.pieceE, if_neg (by simp [hb]), h.len, if_neg (by omega)]
theorem Cv.loadE (h : Cv k S f) {i : Nat} (hi : i < k) : S.loadE true 1 i = if (f i).isSome = true then 0 else 14 := by
  rw [Me.loadE, if_neg (by simp [h.piece (n := i) (j := 1) (by omega) (by omega) (by omega)]), Int.toNat_natCast, (h.get i hi).1]
theorem Cv.loadW (h : Cv k S f) {i : Nat} (hi : i < k) : S.loadW true 1 i = (f i).getD Wd.zero := by
  rw [Me.loadW, h.loadE hi]
  cases e : f i with
  | none => simp
  | some x => rw [if_pos (by simp), Int.toNat_natCast, (h.get i hi).2 x e]; rfl
theorem Cv.store (h : Cv k S f) {i : Nat} (hi : i < k) (x : Wd) : Cv k (S.store true 1 i x) (fun j => if j = i then some x else f j) := by
  rw [Me.store, if_pos (h.piece (by omega) (by omega) (by omega)), Int.toNat_natCast]
  refine ⟨by simp [Me.setAt, h.one], ?_, ?_, ?_, ?_⟩ <;> rw [setAt_at _ h.one]
  · simp [h.len]
  · simp [h.slen]
  · intro j hj
    have h1 := h.len
    have h2 := h.slen
    obtain ⟨g1, g2⟩ := h.get j hj
    rw [List.getD_eq_getElem?_getD] at g1 ⊢
    by_cases e : j = i
    · subst e
      simp [h1, h2, hj]
    · refine ⟨?_, ?_⟩
      · rw [List.getElem?_set_ne (fun e' => e e'.symm), if_neg e]; exact g1
      · intro y hy
        rw [if_neg e] at hy
        have := g2 y hy
        rw [List.getD_eq_getElem?_getD] at this ⊢
        rw [List.getElem?_set_ne (fun e' => e e'.symm)]
        exact this
theorem loads14 {n : Int} (m : Nat) (h : ∀ i : Nat, i < m → S.loadE true 1 (n + i) = 0 ∨ S.loadE true 1 (n + i) = 14) :
    S.loadsE true 1 n m = 0 ∧ (∀ i : Nat, i < m → S.loadE true 1 (n + i) = 0) ∨ S.loadsE true 1 n m = 14 ∧ ∃ i : Nat, i < m ∧ S.loadE true 1 (n + i) = 14 := by
  induction m generalizing n with
  | zero => exact .inl ⟨rfl, fun i hi => absurd hi (Nat.not_lt_zero _)⟩
  | succ m ih =>
    have h0 := h 0 (by omega)
    simp only [Int.natCast_zero, Int.add_zero] at h0
    rcases h0 with h0 | h0
    · rw [Me.loadsE, if_neg (by simp [h0])]
      rcases ih (n := n + 1) (fun i hi => by have := h (i + 1) (by omega); rw [show n + 1 + (i : Int) = n + ((i + 1 : Nat) : Int) by omega]; exact this) with ⟨e, q⟩ | ⟨e, i, hi, q⟩
      · refine .inl ⟨e, fun i hi => ?_⟩
        cases i with
        | zero => simpa using h0
        | succ i => have := q i (by omega); rw [show n + 1 + (i : Int) = n + ((i + 1 : Nat) : Int) by omega] at this; exact this
      · exact .inr ⟨e, i + 1, by omega, by rw [show n + 1 + (i : Int) = n + ((i + 1 : Nat) : Int) by omega] at q; exact q⟩
    · rw [Me.loadsE, if_pos (by simp [h0])]
      exact .inr ⟨h0, 0, by omega, by simpa using h0⟩
theorem splice_at {α : Type} (l m : List α) (i j : Nat) (h : i + m.length ≤ l.length) : (splice l i m)[j]? = if i ≤ j ∧ j < i + m.length then m[j - i]? else l[j]? := by
  simp only [splice]
  by_cases h1 : j < i
  · rw [List.getElem?_append_left (by simp; omega), List.getElem?_take_of_lt h1, if_neg (by omega)]
  · have e : (l.take i).length = i := by simp; omega
    rw [List.getElem?_append_right (by omega), e]
    by_cases h2 : j < i + m.length
    · rw [List.getElem?_append_left (by omega), if_pos (by omega)]
    · rw [List.getElem?_append_right (by omega), List.getElem?_drop, if_neg (by omega)]
      congr 1; omega
theorem Cv.copy (h : Cv k S f) {from_ to n : Nat} (h1 : from_ + n ≤ k) (h2 : to + n ≤ k) (hall : ∀ i, i < n → (f (from_ + i)).isSome = true) :
    S.copyE true 1 to true 1 from_ n = 0 ∧ Cv k (S.copy true 1 to true 1 from_ n) (fun j => if to ≤ j ∧ j < to + n then f (from_ + j - to) else f j) := by
  have hl : S.loadsE true 1 from_ n = 0 := loadsE_ok (fun i hi => by
    have := h.loadE (i := from_ + i) (by omega)
    rw [hall i hi, if_pos rfl] at this
    rw [← this]; congr 1)
  have he : S.copyE true 1 to true 1 from_ n = 0 := by
    rw [Me.copyE, if_neg (by omega), Int.toNat_natCast, hl, if_neg (by simp)]
    exact h.piece (by omega) (by omega) (by omega)
  refine ⟨he, ?_⟩
  have g1 := h.len
  have g2 := h.slen
  rw [Me.copy, if_pos he, Int.toNat_natCast, Int.toNat_natCast]
  refine ⟨by simp [Me.setAt, h.one], ?_, ?_, ?_, ?_⟩ <;> rw [setAt_at _ h.one]
  · rw [splice_length _ _ _ (by rw [loads_length]; omega)]; exact g1
  · rw [splice_length _ _ _ (by simp; omega)]; exact g2
  · intro j hj
    simp only [List.getD_eq_getElem?_getD]
    rw [splice_at _ _ _ _ (by simp; omega), splice_at _ _ _ _ (by rw [loads_length]; omega), loads_length, List.length_replicate]
    by_cases hc : to ≤ j ∧ j < to + n
    · rw [if_pos hc, if_pos hc, if_pos hc]
      have hi : j - to < n := by omega
      have e : from_ + j - to = from_ + (j - to) := by omega
      refine ⟨?_, ?_⟩
      · rw [e, hall _ hi]; simp [hi]
      · intro x hx
        have := h.loadW (i := from_ + (j - to)) (by omega)
        rw [e] at hx
        rw [hx] at this
        simp only [Me.loads, List.getElem?_map]
        rw [List.getElem?_range hi]
        simpa using this
    · rw [if_neg hc, if_neg hc, if_neg hc]
      have := h.get j hj
      simpa only [List.getD_eq_getElem?_getD] using this
theorem Cv.copyBad (h : Cv k S f) {from_ to n : Nat} (h1 : from_ + n ≤ k) (hbad : ∃ i, i < n ∧ (f (from_ + i)).isSome = false) :
    S.copyE true 1 to true 1 from_ n = 14 ∧ S.copy true 1 to true 1 from_ n = S := by
  have he : ∀ i : Nat, i < n → S.loadE true 1 ((from_ : Int) + i) = if (f (from_ + i)).isSome = true then 0 else 14 := fun i hi => by
    rw [← h.loadE (i := from_ + i) (by omega)]; congr 1
  have := loads14 (S := S) (n := from_) n (fun i hi => by rw [he i hi]; split <;> simp)
  have e : S.copyE true 1 to true 1 from_ n = 14 := by
    rw [Me.copyE, if_neg (by omega), Int.toNat_natCast]
    rcases this with ⟨_, q⟩ | ⟨q, _⟩
    · obtain ⟨i, hi, hf⟩ := hbad
      have := q i hi
      rw [he i hi, hf] at this
      simp at this
    · rw [q]; rfl
  exact ⟨e, by rw [Me.copy, e, if_neg (by decide)]⟩
end

section
variable {l : List Wd} {st : List Bool} {t : Nat} {from_ to n : Int}
def cf (l : List Wd) (st : List Bool) (t : Nat) (j : Nat) : Option Wd := if j < t ∧ st.getD j false = true then some (l.getD j Wd.zero) else none
def alS (st : List Bool) (from_ n : Int) : Nat → Bool
  | 0 => true
  | t + 1 => alS st from_ n t && (st.getD t false || decide ((t : Int) < from_) || decide (from_ + n ≤ (t : Int)))
theorem alS_all : alS st from_ n t = true ↔ ∀ j, j < t → st.getD j false = true ∨ (j : Int) < from_ ∨ from_ + n ≤ (j : Int) := by
  induction t with
  | zero => simp [alS]
  | succ t ih =>
    rw [alS, Bool.and_eq_true, ih]
    constructor
    · rintro ⟨h1, h2⟩ j hj
      by_cases e : j = t
      · subst e; simpa [or_assoc] using h2
      · exact h1 j (by omega)
    · intro h
      exact ⟨fun j hj => h j (by omega), by have := h t (by omega); simpa [or_assoc] using this⟩
theorem co_e1 (h : l.length ≤ 40) : (Me.new 100).allocE l.length = 0 := by simp [Me.new, Me.allocE]; omega
theorem co_1 (h : l.length ≤ 40) : Cv l.length ((Me.new 100).alloc l.length) (cf l st 0) := by
  rw [Me.alloc, if_pos (co_e1 h)]
  refine ⟨by simp [Me.new], rfl, ?_, ?_, ?_⟩
  · simp [Me.new, Me.at]
  · simp [Me.new, Me.at]
  · intro i hi
    simp [Me.new, Me.at, cf, List.getD_eq_getElem?_getD, hi]
theorem co_w1 (h : l.length ≤ 40) : (Me.new 100).allocW l.length = ⟨true, 1, 0⟩ := by rw [Me.allocW, if_pos (co_e1 h)]; simp [Me.new]
theorem co_s {S : Me} (h : Cv l.length S (cf l st t)) (ht : t < l.length) (x : Wd) (hx : l[t]? = some x) (hs : st.getD t false = true) : Cv l.length (S.store true 1 t ⟨x.p, x.a, x.n⟩) (cf l st (t + 1)) := by
  have := h.store ht x
  have e : cf l st (t + 1) = fun j => if j = t then some x else cf l st t j := by
    funext j
    by_cases ej : j = t
    · subst ej; show cf l st (j + 1) j = if j = j then some x else cf l st j j; rw [if_pos rfl, cf, if_pos ⟨by omega, hs⟩, List.getD_eq_getElem?_getD, hx]; rfl
    · simp only [cf]; rw [if_neg ej]; by_cases hc : j < t ∧ st.getD j false = true
      · rw [if_pos hc, if_pos ⟨by omega, hc.2⟩]
      · rw [if_neg hc, if_neg (fun q => hc ⟨by omega, q.2⟩)]
  rw [e]; exact this
theorem co_n {S : Me} (h : Cv l.length S (cf l st t)) (hs : st.getD t false = false) : Cv l.length S (cf l st (t + 1)) := by
  have e : cf l st (t + 1) = cf l st t := by
    funext j
    by_cases ej : j = t
    · subst ej; simp only [cf]; rw [if_neg (by rw [hs]; simp), if_neg (by omega)]
    · simp only [cf]; by_cases hc : j < t ∧ st.getD j false = true
      · rw [if_pos hc, if_pos ⟨by omega, hc.2⟩]
      · rw [if_neg hc, if_neg (fun q => hc ⟨by omega, q.2⟩)]
  rw [e]; exact h
/-- Where the word lies that is at i behind the copy. -/
def coAt (a : Bool) (from_ to n : Int) (i : Nat) : Nat := if a = true ∧ to ≤ i ∧ (i : Int) < to + n then (from_ + i - to).toNat else i
theorem co_c {S : Me} (h : Cv l.length S (cf l st l.length)) (_hl : st.length = l.length) (h2 : 0 ≤ from_) (h3 : 0 ≤ to) (h4 : 0 ≤ n) (h5 : n ≤ (l.length : Int) - from_) (h6 : n ≤ (l.length : Int) - to) :
    S.copyE true 1 to true 1 from_ n = (if alS st from_ n l.length = true then 0 else 14) ∧ Cv l.length (S.copy true 1 to true 1 from_ n) (fun j => cf l st l.length (coAt (alS st from_ n l.length) from_ to n j)) := by
  obtain ⟨from_, rfl⟩ := Int.eq_ofNat_of_zero_le h2
  obtain ⟨to, rfl⟩ := Int.eq_ofNat_of_zero_le h3
  obtain ⟨n, rfl⟩ := Int.eq_ofNat_of_zero_le h4
  cases ha : alS st from_ n l.length
  · have hb : ∃ i, i < n ∧ (cf l st l.length (from_ + i)).isSome = false := by
      refine Classical.byContradiction fun hno => ?_
      have : alS st from_ n l.length = true := alS_all.2 (fun j hj => by
        by_cases hs : st.getD j false = true
        · exact .inl hs
        · refine .inr (Classical.byContradiction fun hr => hno ⟨j - from_, by omega, ?_⟩)
          rw [show from_ + (j - from_) = j by omega, cf, if_neg (fun q => hs q.2)]
          rfl)
      rw [ha] at this
      cases this
    obtain ⟨e1, e2⟩ := h.copyBad (to := to) (by omega) hb
    refine ⟨by rw [e1]; rfl, ?_⟩
    rw [e2]
    have : (fun j => cf l st l.length (coAt false from_ to n j)) = cf l st l.length := by funext j; simp [coAt]
    rw [this]; exact h
  · have hall : ∀ i, i < n → (cf l st l.length (from_ + i)).isSome = true := fun i hi => by
      have := alS_all.1 ha (from_ + i) (by omega)
      rcases this with q | q | q
      · rw [cf, if_pos ⟨by omega, q⟩]; rfl
      · omega
      · omega
    obtain ⟨e1, e2⟩ := h.copy (from_ := from_) (to := to) (by omega) (by omega) hall
    refine ⟨by rw [e1]; rfl, ?_⟩
    have : (fun j => cf l st l.length (coAt true from_ to n j)) = fun j => if to ≤ j ∧ j < to + n then cf l st l.length (from_ + j - to) else cf l st l.length j := by
      funext j
      by_cases hc : to ≤ j ∧ j < to + n
      · rw [if_pos hc, coAt, if_pos ⟨rfl, by omega, by omega⟩]; congr 1; omega
      · rw [if_neg hc, coAt, if_neg (by omega)]
    rw [this]; exact e2
theorem coAt_lt (h1 : t < l.length) (h2 : 0 ≤ from_) (_h4 : 0 ≤ n) (h5 : n ≤ (l.length : Int) - from_) (a : Bool) : coAt a from_ to n t < l.length := by
  rw [coAt]; split <;> omega
theorem co_w {S : Me} {a : Bool} (h : Cv l.length S (fun j => cf l st l.length (coAt a from_ to n j))) (h1 : t < l.length) (u : Nat) (hu : coAt a from_ to n t = u) (hlt : u < l.length) (s : Bool) (hs : st[u]? = some s) (x : Wd) (hx : l[u]? = some x) :
    S.loadE true 1 t = (if s = true then 0 else 14) ∧ (s = true → S.loadW true 1 t = ⟨x.p, x.a, x.n⟩) ∧ (s = false → S.loadW true 1 t = ⟨false, 0, 0⟩) := by
  have e1 := h.loadE h1
  have e2 := h.loadW h1
  simp only [hu] at e1 e2
  have e3 : st.getD u false = s := by rw [List.getD_eq_getElem?_getD, hs]; rfl
  have e4 : l.getD u Wd.zero = x := by rw [List.getD_eq_getElem?_getD, hx]; rfl
  cases s
  · rw [cf, if_neg (by rw [e3]; simp)] at e1 e2
    exact ⟨e1, fun h => (by cases h), fun _ => e2⟩
  · have ec : cf l st l.length u = some (l.getD u Wd.zero) := by rw [cf, if_pos ⟨hlt, e3⟩]
    rw [ec] at e1 e2
    exact ⟨e1, fun _ => by rw [e2, e4]; rfl, fun h => (by cases h)⟩
end

set_option maxRecDepth 100000 in
set_option maxHeartbeats 4000000 in
theorem memCopies_out (l : List Wd) (A : Option Addr) (c : Nat) (st : List Bool) (A2 : Option Addr) (c2 : Nat) (from_ to n : Int) (W : World) (hm : l.length ≤ maxLen) (h : 40 < l.length ∨ l.length ≠ st.length ∨ from_ < 0 ∨ to < 0 ∨ n < 0 ∨ (l.length : Int) < from_ ∨ (l.length : Int) < to ∨ (l.length : Int) - from_ < n ∨ (l.length : Int) - to < n) :
    Calls Try.prog 7 #[.slice A l.length c, .slice A2 st.length c2, .int .i64 from_, .int .i64 to, .int .i64 n] W fun e W' => e = .returned (.bool true) ∧ Below W.heap.size W W' := by
  have C1 := Lib.hid (works_any W)
  have H := Lib.hid h
  clear h
  unfold maxLen at hm
  go_enter Try.func7, Try.ntmps7
  go_wp2_with fail
  refine C1.out.mono ?_
  rintro e w1 ⟨rfl, b1⟩
  go_wp2_with fail
  all_goals first
    | (exfalso; have := H.out; omega)
    | (go_ret; exact ⟨rfl, stepB (Below.refl _ _) (Nat.le_refl _) b1⟩)
    | skip

set_option maxRecDepth 100000 in
set_option maxHeartbeats 8000000 in
theorem memCopies_in (l : List Wd) (A : Option Addr) (c : Nat) (st : List Bool) (A2 : Option Addr) (c2 : Nat) (from_ to n : Int) (W : World) (hr : InW W A l) (hr2 : InB W A2 st) (hu : st.length = l.length) (h1 : l.length ≤ 40) (h2 : 0 ≤ from_) (h3 : 0 ≤ to) (h4 : 0 ≤ n)
    (h5 : n ≤ (l.length : Int) - from_) (h6 : n ≤ (l.length : Int) - to) :
    Calls Try.prog 7 #[.slice A l.length c, .slice A2 st.length c2, .int .i64 from_, .int .i64 to, .int .i64 n] W fun e W' => e = .returned (.bool true) ∧ Below W.heap.size W W' := by
  rw [hu]
  have HR := Lib.hid hr
  have HT := Lib.hid hr2
  have HU := Lib.hid hu
  clear hr hr2 hu
  go_enter Try.func7, Try.ntmps7
  go_wp2_with fail
  refine (works_any _).mono ?_
  rintro e w1 ⟨rfl, b1⟩
  have z1 : Below W.heap.size W w1 := stepB (by repeat (first | exact Below.refl _ _ | (refine allocB ?_ (Nat.le_refl _) _) | apply Below.drew | (refine drewNB ?_ _))) (Nat.le_refl _) b1
  go_wp2_with fail
  refine (Mem.new _ 100).mono ?_
  rintro e w2 ⟨rfl, m2, b2, _⟩
  have z2 : Below W.heap.size W w2 := stepB (by repeat (first | exact z1 | (refine allocB ?_ (Nat.le_refl _) _) | apply Below.drew | (refine drewNB ?_ _))) (Nat.le_refl _) b2
  go_wp2_with fail
  refine (Mem.makeX (by repeat (first | exact m2 | apply Mem.alloc | apply Mem.drew | apply Mem.drewN)) (by decide) true 1 0 0 ((Me.new 100).alloc l.length) (co_w1 h1) (co_e1 h1) rfl).mono ?_
  rintro e w3 ⟨rfl, ⟨F3, m3, q3⟩, k3⟩
  have z3 : Below W.heap.size W w3 := keptB (fun k h => by have := (m2.low k h).1; have := z1.size; omega) (by repeat (first | exact z2 | (refine allocB ?_ (Nat.le_refl _) _) | apply Below.drew | (refine drewNB ?_ _))) (Nat.le_refl _) k3
  have np : ¬ F3 w3.heap.size := fun h => Nat.lt_irrefl _ (m3.low _ h).2
  have bp : Hid (Box (w3.alloc (.cells #[.bool true, .int .i64 1, .int .i64 0] 23)) w3.heap.size #[.bool true, .int .i64 1, .int .i64 0]) := Lib.hid (Box.new _ _)
  have mp := m3.alloc (.cells #[.bool true, .int .i64 1, .int .i64 0] 23)
  have zp := allocB z3 (Nat.le_refl _) (.cells #[.bool true, .int .i64 1, .int .i64 0] 23)
  have cp : Cv l.length ((Me.new 100).alloc l.length) (cf l st 0) := co_1 h1
  generalize (Me.new 100).alloc l.length = S0 at *
  go_wp2_with fail
  go_loopw [16, 17] (fun a i wr => ∃ (t : Nat) (S : Me), t ≤ l.length ∧ i = .int .i64 t ∧ a = .bool (alS st from_ n t) ∧ Cv l.length S (cf l st t) ∧ Mem w1.heap.size wr w1.heap.size F3 S ∧ Hid (Box wr w3.heap.size #[.bool true, .int .i64 1, .int .i64 0]) ∧ Below W.heap.size W wr) (fun _ i _ => l.length - (intOf i).toNat)
  case atStart => exact ⟨0, S0, Nat.zero_le _, rfl, rfl, cp, mp, bp, zp⟩
  case round =>
    obtain ⟨t, S, ht, rfl, rfl, cv, m, b, z⟩ := hrel
    clear mp bp zp cp
    by_cases hlt : t < l.length
    · skip
      obtain ⟨ab, off, rfl, hab, hcells⟩ := HR.out (by omega)
      obtain ⟨ab2, off2, rfl, hab2, hcells2⟩ := HT.out (by have := HU.out; omega)
      obtain ⟨x, hx⟩ : ∃ x, l[t]? = some x := ⟨_, List.getElem?_eq_getElem hlt⟩
      obtain ⟨s, hs⟩ : ∃ s, st[t]? = some s := ⟨_, List.getElem?_eq_getElem (by have := HU.out; omega)⟩
      obtain ⟨x0, x1, x2⟩ := hcells t x hx
      have s0 := hcells2 t s hs
      have HX := Lib.hid hx
      have HX0 := Lib.hid x0
      have HX1 := Lib.hid x1
      have HX2 := Lib.hid x2
      have HS := Lib.hid hs
      have HS0 := Lib.hid s0
      clear hcells hcells2 hx x0 x1 x2 hs s0
      have hsg : st.getD t false = s := by rw [List.getD_eq_getElem?_getD, HS.out]; rfl
      have HG := Lib.hid hsg
      clear hsg
      have hti : (0 : Int) ≤ (t : Int) := by omega
      have htl : (t : Int) < (l.length : Int) := by omega
      obtain ⟨lp, hp, fp⟩ := b.out.see
      go_wp2_with fail
      refine (off_yesX _ t (by unfold wrap64; omega)).mono ?_
      rintro e w4 ⟨rfl, b4⟩
      have z4 : Below W.heap.size W w4 := stepB (by repeat (first | exact z | (refine allocB ?_ (Nat.le_refl _) _) | apply Below.drew | (refine drewNB ?_ _))) (Nat.le_refl _) b4
      have m4 := Mem.below (by repeat (first | exact m | apply Mem.alloc | apply Mem.drew | apply Mem.drewN)) b4
      have p_4 : Hid (Box w4 w3.heap.size #[.bool true, .int .i64 1, .int .i64 0]) := Lib.hid (Box.below (by repeat (first | exact Box.newAt (by simp; done) | exact b.out | exact Box.newAt rfl | apply Box.alloc | apply Box.drew | apply Box.drewN)) b4)
      clear b lp hp fp
      obtain ⟨lp, hp, fp⟩ := p_4.out.see
      have y0 : w4.cell? ⟨ab, off + t * 3, none⟩ = some (.bool x.p) := (z4.cell (p := ⟨ab, off + t * 3, none⟩) hab).trans HX0.out
      have y1 : w4.cell? ⟨ab, off + t * 3 + 1, none⟩ = some (.int .i64 x.a) := (z4.cell (p := ⟨ab, off + t * 3 + 1, none⟩) hab).trans HX1.out
      have y2 : w4.cell? ⟨ab, off + t * 3 + 2, none⟩ = some (.int .i64 x.n) := (z4.cell (p := ⟨ab, off + t * 3 + 2, none⟩) hab).trans HX2.out
      have habw : ab < w4.heap.size := by have := z4.size; omega
      have y3 : w4.cell? ⟨ab2, off2 + t, none⟩ = some (.bool s) := (z4.cell (p := ⟨ab2, off2 + t, none⟩) hab2).trans HS0.out
      have habw2 : ab2 < w4.heap.size := by have := z4.size; omega
      obtain ⟨a, ha⟩ : ∃ a, a = alS st from_ n t := ⟨_, rfl⟩
      have HA := Lib.hid ha
      rw [← ha]
      clear ha
      have CV := Lib.hid cv
      clear cv
      cases s
      · skip
        go_wp2_with fail
        go_quiet (fail)
        cases a
        · skip
          go_wp2
          go_roundw
          case rel => exact ⟨t + 1, S, by omega, by go_num, by simp [alS, HS.out, ← HA.out], co_n CV.out HG.out, by repeat (first | exact m4 | apply Mem.alloc | apply Mem.drew | apply Mem.drewN), Lib.hid (by repeat (first | exact Box.newAt (by simp; done) | exact p_4.out | exact Box.newAt rfl | apply Box.alloc | apply Box.drew | apply Box.drewN)), by repeat (first | exact z4 | (refine allocB ?_ (Nat.le_refl _) _) | apply Below.drew | (refine drewNB ?_ _))⟩
          case measure => simp [intOf]; omega
        · skip
          by_cases g1 : (t : Int) < from_
          · skip
            go_wp2
            go_roundw
            case rel => exact ⟨t + 1, S, by omega, by go_num, by simp [alS, HS.out, ← HA.out, g1], co_n CV.out HG.out, by repeat (first | exact m4 | apply Mem.alloc | apply Mem.drew | apply Mem.drewN), Lib.hid (by repeat (first | exact Box.newAt (by simp; done) | exact p_4.out | exact Box.newAt rfl | apply Box.alloc | apply Box.drew | apply Box.drewN)), by repeat (first | exact z4 | (refine allocB ?_ (Nat.le_refl _) _) | apply Below.drew | (refine drewNB ?_ _))⟩
            case measure => simp [intOf]; omega
          · skip
            by_cases g2 : from_ + n ≤ (t : Int)
            · skip
              go_wp2
              go_roundw
              case rel => exact ⟨t + 1, S, by omega, by go_num, by simp [alS, HS.out, ← HA.out, g1, g2], co_n CV.out HG.out, by repeat (first | exact m4 | apply Mem.alloc | apply Mem.drew | apply Mem.drewN), Lib.hid (by repeat (first | exact Box.newAt (by simp; done) | exact p_4.out | exact Box.newAt rfl | apply Box.alloc | apply Box.drew | apply Box.drewN)), by repeat (first | exact z4 | (refine allocB ?_ (Nat.le_refl _) _) | apply Below.drew | (refine drewNB ?_ _))⟩
              case measure => simp [intOf]; omega
            · skip
              go_wp2
              go_roundw
              case rel => exact ⟨t + 1, S, by omega, by go_num, by simp [alS, HS.out, ← HA.out, g1, g2], co_n CV.out HG.out, by repeat (first | exact m4 | apply Mem.alloc | apply Mem.drew | apply Mem.drewN), Lib.hid (by repeat (first | exact Box.newAt (by simp; done) | exact p_4.out | exact Box.newAt rfl | apply Box.alloc | apply Box.drew | apply Box.drewN)), by repeat (first | exact z4 | (refine allocB ?_ (Nat.le_refl _) _) | apply Below.drew | (refine drewNB ?_ _))⟩
              case measure => simp [intOf]; omega
      · skip
        have nq_5 : ¬ F3 w4.heap.size := fun h => Nat.lt_irrefl _ (m4.low _ h).2
        go_wp2_with fail
        go_region_with (go_at_call 15; refine (Mem.storeX (by repeat (first | exact m4 | apply Mem.alloc | apply Mem.drew | apply Mem.drewN)) 0 (S.store true 1 t ⟨x.p, x.a, x.n⟩) rfl (CV.out.piece (by omega) (by omega) (by omega))).mono ?_; rintro e w5 ⟨rfl, m5, k5⟩)
        all_goals
          have z5 : Below W.heap.size W w5 := keptB (fun k h => by have := (m4.low k h).1; have := z1.size; omega) (by repeat (first | exact z4 | (refine allocB ?_ (Nat.le_refl _) _) | apply Below.drew | (refine drewNB ?_ _))) (Nat.le_refl _) k5
          have p_5 : Hid (Box w5 w3.heap.size #[.bool true, .int .i64 1, .int .i64 0]) := Lib.hid (Box.kept (by repeat (first | exact Box.newAt (by simp; done) | exact p_4.out | exact Box.newAt rfl | apply Box.alloc | apply Box.drew | apply Box.drewN)) k5 np)
          clear p_4 lp hp fp
          obtain ⟨lp, hp, fp⟩ := p_5.out.see
          have q_5 : Hid (Box w5 w4.heap.size #[.bool true, .int .i64 1, .int .i64 t]) := Lib.hid (Box.kept (by repeat (first | exact Box.newAt (by simp; done) | exact Box.newAt rfl | apply Box.alloc | apply Box.drew | apply Box.drewN)) k5 nq_5)
          obtain ⟨lq, hq, fq⟩ := q_5.out.see
          have CW := Lib.hid (co_s CV.out hlt x HX.out HG.out)
          generalize S.store true 1 t ⟨x.p, x.a, x.n⟩ = S1 at *
          have y4 : w5.cell? ⟨ab2, off2 + t, none⟩ = some (.bool true) := (z5.cell (p := ⟨ab2, off2 + t, none⟩) hab2).trans HS0.out
          have habw5 : ab2 < w5.heap.size := by have := z5.size; omega
          cases a
          · skip
            go_wp2
            go_roundw
            case rel => exact ⟨t + 1, S1, by omega, by go_num, by simp [alS, HS.out, ← HA.out], CW.out, m5, p_5, z5⟩
            case measure => simp [intOf]; omega
          · skip
            go_wp2
            go_roundw
            case rel => exact ⟨t + 1, S1, by omega, by go_num, by simp [alS, HS.out, ← HA.out], CW.out, m5, p_5, z5⟩
            case measure => simp [intOf]; omega
    · obtain rfl : t = l.length := by omega
      clear ht hlt
      obtain ⟨a, ha⟩ : ∃ a, a = alS st from_ n l.length := ⟨_, rfl⟩
      obtain ⟨e1, c1⟩ := co_c cv HU.out h2 h3 h4 h5 h6
      rw [← ha] at e1 c1 ⊢
      have HA := Lib.hid ha
      clear ha cv
      have CV := Lib.hid c1
      have HE := Lib.hid e1
      clear c1 e1
      obtain ⟨lp, hp, fp⟩ := b.out.see
      go_wp2_with fail
      refine (off_yesX _ from_ (by unfold wrap64; omega)).mono ?_
      rintro e w4 ⟨rfl, b4⟩
      have z4 : Below W.heap.size W w4 := stepB (by repeat (first | exact z | (refine allocB ?_ (Nat.le_refl _) _) | apply Below.drew | (refine drewNB ?_ _))) (Nat.le_refl _) b4
      have m4 := Mem.below (by repeat (first | exact m | apply Mem.alloc | apply Mem.drew | apply Mem.drewN)) b4
      have p_4 : Hid (Box w4 w3.heap.size #[.bool true, .int .i64 1, .int .i64 0]) := Lib.hid (Box.below (by repeat (first | exact Box.newAt (by simp; done) | exact b.out | exact Box.newAt rfl | apply Box.alloc | apply Box.drew | apply Box.drewN)) b4)
      clear b lp hp fp
      obtain ⟨lp, hp, fp⟩ := p_4.out.see
      have nqa_5 : ¬ F3 w4.heap.size := fun h => Nat.lt_irrefl _ (m4.low _ h).2
      go_wp2_with fail
      refine (off_yesX _ to (by unfold wrap64; omega)).mono ?_
      rintro e w5 ⟨rfl, b5⟩
      have z5 : Below W.heap.size W w5 := stepB (by repeat (first | exact z4 | (refine allocB ?_ (Nat.le_refl _) _) | apply Below.drew | (refine drewNB ?_ _))) (Nat.le_refl _) b5
      have m5 := Mem.below (by repeat (first | exact m4 | apply Mem.alloc | apply Mem.drew | apply Mem.drewN)) b5
      have p_5 : Hid (Box w5 w3.heap.size #[.bool true, .int .i64 1, .int .i64 0]) := Lib.hid (Box.below (by repeat (first | exact Box.newAt (by simp; done) | exact p_4.out | exact Box.newAt rfl | apply Box.alloc | apply Box.drew | apply Box.drewN)) b5)
      clear p_4 lp hp fp
      obtain ⟨lp, hp, fp⟩ := p_5.out.see
      have qa_5 : Hid (Box w5 w4.heap.size #[.bool true, .int .i64 1, .int .i64 from_]) := Lib.hid (Box.below (by repeat (first | exact Box.newAt (by simp; done) | exact Box.newAt rfl | apply Box.alloc | apply Box.drew | apply Box.drewN)) b5)
      obtain ⟨lqa, hqa, fqa⟩ := qa_5.out.see
      have nqb_6 : ¬ F3 w5.heap.size := fun h => Nat.lt_irrefl _ (m5.low _ h).2
      go_wp2_with fail
      refine (Mem.copyX (by repeat (first | exact m5 | apply Mem.alloc | apply Mem.drew | apply Mem.drewN)) (if a = true then 0 else 14) (S.copy true 1 to true 1 from_ n) rfl HE.out).mono ?_
      rintro e w6 ⟨rfl, m6, k6⟩
      have z6 : Below W.heap.size W w6 := keptB (fun k h => by have := (m5.low k h).1; have := z1.size; omega) (by repeat (first | exact z5 | (refine allocB ?_ (Nat.le_refl _) _) | apply Below.drew | (refine drewNB ?_ _))) (Nat.le_refl _) k6
      have p_6 : Hid (Box w6 w3.heap.size #[.bool true, .int .i64 1, .int .i64 0]) := Lib.hid (Box.kept (by repeat (first | exact Box.newAt (by simp; done) | exact p_5.out | exact Box.newAt rfl | apply Box.alloc | apply Box.drew | apply Box.drewN)) k6 np)
      clear p_5 lp hp fp
      obtain ⟨lp, hp, fp⟩ := p_6.out.see
      have qa_6 : Hid (Box w6 w4.heap.size #[.bool true, .int .i64 1, .int .i64 from_]) := Lib.hid (Box.kept (by repeat (first | exact Box.newAt (by simp; done) | exact qa_5.out | exact Box.newAt rfl | apply Box.alloc | apply Box.drew | apply Box.drewN)) k6 nqa_5)
      clear qa_5 lqa hqa fqa
      obtain ⟨lqa, hqa, fqa⟩ := qa_6.out.see
      have qb_6 : Hid (Box w6 w5.heap.size #[.bool true, .int .i64 1, .int .i64 to]) := Lib.hid (Box.kept (by repeat (first | exact Box.newAt (by simp; done) | exact Box.newAt rfl | apply Box.alloc | apply Box.drew | apply Box.drewN)) k6 nqb_6)
      obtain ⟨lqb, hqb, fqb⟩ := qb_6.out.see
      clear qa_6 lqa hqa fqa
      clear qb_6 lqb hqb fqb
      generalize S.copy true 1 to true 1 from_ n = T at *
      clear HE
      have bp := p_6
      have mp := m6
      have zp := z6
      clear p_6 lp hp fp m6 z6 m5 z5 m4 z4 b4 b5 k6 m z
      cases a
      · skip
        simp only [reduceIte, Bool.false_eq_true]
        go_wp2_with fail
        go_loopw [25] (fun i wr => ∃ t : Nat, t ≤ l.length ∧ i = .int .i64 t ∧ Mem w1.heap.size wr w1.heap.size F3 T ∧ Hid (Box wr w3.heap.size #[.bool true, .int .i64 1, .int .i64 0]) ∧ Below W.heap.size W wr) (fun i _ => l.length - (intOf i).toNat)
        case atStart => exact ⟨0, Nat.zero_le _, rfl, mp, bp, zp⟩
        case round =>
          obtain ⟨t, ht, rfl, m, b, z⟩ := hrel
          clear mp bp zp
          by_cases hlt : t < l.length
          · skip
            have hti : (0 : Int) ≤ (t : Int) := by omega
            have htl : (t : Int) < (l.length : Int) := by omega
            have hu : coAt false from_ to n t = t := by simp [coAt]
            have hult : t < l.length := by omega
            obtain ⟨ab, off, rfl, hab, hcells⟩ := HR.out (by omega)
            obtain ⟨ab2, off2, rfl, hab2, hcells2⟩ := HT.out (by have := HU.out; omega)
            obtain ⟨x, hx⟩ : ∃ x, l[t]? = some x := ⟨_, List.getElem?_eq_getElem hult⟩
            obtain ⟨s, hs⟩ : ∃ s, st[t]? = some s := ⟨_, List.getElem?_eq_getElem (by have := HU.out; omega)⟩
            obtain ⟨x0, x1, x2⟩ := hcells t x hx
            have s0 := hcells2 t s hs
            have HX := Lib.hid hx
            have HX0 := Lib.hid x0
            have HX1 := Lib.hid x1
            have HX2 := Lib.hid x2
            have HS := Lib.hid hs
            have HS0 := Lib.hid s0
            clear hcells hcells2 hx x0 x1 x2 hs s0
            have cw := co_w CV.out hlt t hu hult s HS.out x HX.out
            clear hu
            have CW := Lib.hid cw
            clear cw
            cases s
            · skip
              obtain ⟨lp, hp, fp⟩ := b.out.see
              go_wp2_with fail
              refine (off_yesX _ t (by unfold wrap64; omega)).mono ?_
              rintro e w4 ⟨rfl, b4⟩
              have z4 : Below W.heap.size W w4 := stepB (by repeat (first | exact z | (refine allocB ?_ (Nat.le_refl _) _) | apply Below.drew | (refine drewNB ?_ _))) (Nat.le_refl _) b4
              have m4 := Mem.below (by repeat (first | exact m | apply Mem.alloc | apply Mem.drew | apply Mem.drewN)) b4
              have p_4 : Hid (Box w4 w3.heap.size #[.bool true, .int .i64 1, .int .i64 0]) := Lib.hid (Box.below (by repeat (first | exact Box.newAt (by simp; done) | exact b.out | exact Box.newAt rfl | apply Box.alloc | apply Box.drew | apply Box.drewN)) b4)
              clear b lp hp fp
              obtain ⟨lp, hp, fp⟩ := p_4.out.see
              have nq_5 : ¬ F3 w4.heap.size := fun h => Nat.lt_irrefl _ (m4.low _ h).2
              go_wp2_with fail
              refine (Mem.loadX (by repeat (first | exact m4 | apply Mem.alloc | apply Mem.drew | apply Mem.drewN)) false 0 0 14 (CW.out.2.2 (by simp)) CW.out.1).mono ?_
              rintro e w5 ⟨rfl, b5⟩
              have z5 : Below W.heap.size W w5 := stepB (by repeat (first | exact z4 | (refine allocB ?_ (Nat.le_refl _) _) | apply Below.drew | (refine drewNB ?_ _))) (Nat.le_refl _) b5
              have m5 := Mem.below (by repeat (first | exact m4 | apply Mem.alloc | apply Mem.drew | apply Mem.drewN)) b5
              have p_5 : Hid (Box w5 w3.heap.size #[.bool true, .int .i64 1, .int .i64 0]) := Lib.hid (Box.below (by repeat (first | exact Box.newAt (by simp; done) | exact p_4.out | exact Box.newAt rfl | apply Box.alloc | apply Box.drew | apply Box.drewN)) b5)
              clear p_4 lp hp fp
              obtain ⟨lp, hp, fp⟩ := p_5.out.see
              have q_5 : Hid (Box w5 w4.heap.size #[.bool true, .int .i64 1, .int .i64 t]) := Lib.hid (Box.below (by repeat (first | exact Box.newAt (by simp; done) | exact Box.newAt rfl | apply Box.alloc | apply Box.drew | apply Box.drewN)) b5)
              obtain ⟨lq, hq, fq⟩ := q_5.out.see
              clear q_5 lq hq fq
              have y0 : w5.cell? ⟨ab, off + t * 3, none⟩ = some (.bool x.p) := (z5.cell (p := ⟨ab, off + t * 3, none⟩) hab).trans HX0.out
              have y1 : w5.cell? ⟨ab, off + t * 3 + 1, none⟩ = some (.int .i64 x.a) := (z5.cell (p := ⟨ab, off + t * 3 + 1, none⟩) hab).trans HX1.out
              have y2 : w5.cell? ⟨ab, off + t * 3 + 2, none⟩ = some (.int .i64 x.n) := (z5.cell (p := ⟨ab, off + t * 3 + 2, none⟩) hab).trans HX2.out
              have habw : ab < w5.heap.size := by have := z5.size; omega
              have y3 : w5.cell? ⟨ab2, off2 + t, none⟩ = some (.bool false) := (z5.cell (p := ⟨ab2, off2 + t, none⟩) hab2).trans HS0.out
              have habw2 : ab2 < w5.heap.size := by have := z5.size; omega
              go_wp2_with fail
              go_quiet (fail)
              go_wp2
              go_roundw
              case rel => exact ⟨t + 1, by omega, by go_num, by repeat (first | exact m5 | apply Mem.alloc | apply Mem.drew | apply Mem.drewN), Lib.hid (by repeat (first | exact Box.newAt (by simp; done) | exact p_5.out | exact Box.newAt rfl | apply Box.alloc | apply Box.drew | apply Box.drewN)), by repeat (first | exact z5 | (refine allocB ?_ (Nat.le_refl _) _) | apply Below.drew | (refine drewNB ?_ _))⟩
              case measure => simp [intOf]; omega
            · skip
              obtain ⟨lp, hp, fp⟩ := b.out.see
              go_wp2_with fail
              refine (off_yesX _ t (by unfold wrap64; omega)).mono ?_
              rintro e w4 ⟨rfl, b4⟩
              have z4 : Below W.heap.size W w4 := stepB (by repeat (first | exact z | (refine allocB ?_ (Nat.le_refl _) _) | apply Below.drew | (refine drewNB ?_ _))) (Nat.le_refl _) b4
              have m4 := Mem.below (by repeat (first | exact m | apply Mem.alloc | apply Mem.drew | apply Mem.drewN)) b4
              have p_4 : Hid (Box w4 w3.heap.size #[.bool true, .int .i64 1, .int .i64 0]) := Lib.hid (Box.below (by repeat (first | exact Box.newAt (by simp; done) | exact b.out | exact Box.newAt rfl | apply Box.alloc | apply Box.drew | apply Box.drewN)) b4)
              clear b lp hp fp
              obtain ⟨lp, hp, fp⟩ := p_4.out.see
              have nq_5 : ¬ F3 w4.heap.size := fun h => Nat.lt_irrefl _ (m4.low _ h).2
              go_wp2_with fail
              refine (Mem.loadX (by repeat (first | exact m4 | apply Mem.alloc | apply Mem.drew | apply Mem.drewN)) x.p x.a x.n 0 (CW.out.2.1 (by simp)) CW.out.1).mono ?_
              rintro e w5 ⟨rfl, b5⟩
              have z5 : Below W.heap.size W w5 := stepB (by repeat (first | exact z4 | (refine allocB ?_ (Nat.le_refl _) _) | apply Below.drew | (refine drewNB ?_ _))) (Nat.le_refl _) b5
              have m5 := Mem.below (by repeat (first | exact m4 | apply Mem.alloc | apply Mem.drew | apply Mem.drewN)) b5
              have p_5 : Hid (Box w5 w3.heap.size #[.bool true, .int .i64 1, .int .i64 0]) := Lib.hid (Box.below (by repeat (first | exact Box.newAt (by simp; done) | exact p_4.out | exact Box.newAt rfl | apply Box.alloc | apply Box.drew | apply Box.drewN)) b5)
              clear p_4 lp hp fp
              obtain ⟨lp, hp, fp⟩ := p_5.out.see
              have q_5 : Hid (Box w5 w4.heap.size #[.bool true, .int .i64 1, .int .i64 t]) := Lib.hid (Box.below (by repeat (first | exact Box.newAt (by simp; done) | exact Box.newAt rfl | apply Box.alloc | apply Box.drew | apply Box.drewN)) b5)
              obtain ⟨lq, hq, fq⟩ := q_5.out.see
              clear q_5 lq hq fq
              have y0 : w5.cell? ⟨ab, off + t * 3, none⟩ = some (.bool x.p) := (z5.cell (p := ⟨ab, off + t * 3, none⟩) hab).trans HX0.out
              have y1 : w5.cell? ⟨ab, off + t * 3 + 1, none⟩ = some (.int .i64 x.a) := (z5.cell (p := ⟨ab, off + t * 3 + 1, none⟩) hab).trans HX1.out
              have y2 : w5.cell? ⟨ab, off + t * 3 + 2, none⟩ = some (.int .i64 x.n) := (z5.cell (p := ⟨ab, off + t * 3 + 2, none⟩) hab).trans HX2.out
              have habw : ab < w5.heap.size := by have := z5.size; omega
              have y3 : w5.cell? ⟨ab2, off2 + t, none⟩ = some (.bool true) := (z5.cell (p := ⟨ab2, off2 + t, none⟩) hab2).trans HS0.out
              have habw2 : ab2 < w5.heap.size := by have := z5.size; omega
              go_wp2_with fail
              go_quiet (fail)
              go_wp2
              go_roundw
              case rel => exact ⟨t + 1, by omega, by go_num, by repeat (first | exact m5 | apply Mem.alloc | apply Mem.drew | apply Mem.drewN), Lib.hid (by repeat (first | exact Box.newAt (by simp; done) | exact p_5.out | exact Box.newAt rfl | apply Box.alloc | apply Box.drew | apply Box.drewN)), by repeat (first | exact z5 | (refine allocB ?_ (Nat.le_refl _) _) | apply Below.drew | (refine drewNB ?_ _))⟩
              case measure => simp [intOf]; omega
          · obtain rfl : t = l.length := by omega
            clear ht hlt
            go_wp2
            go_ret
            exact ⟨rfl, z⟩
      · skip
        simp only [reduceIte]
        go_wp2_with fail
        go_loopw [25] (fun i wr => ∃ t : Nat, t ≤ l.length ∧ i = .int .i64 t ∧ Mem w1.heap.size wr w1.heap.size F3 T ∧ Hid (Box wr w3.heap.size #[.bool true, .int .i64 1, .int .i64 0]) ∧ Below W.heap.size W wr) (fun i _ => l.length - (intOf i).toNat)
        case atStart => exact ⟨0, Nat.zero_le _, rfl, mp, bp, zp⟩
        case round =>
          obtain ⟨t, ht, rfl, m, b, z⟩ := hrel
          clear mp bp zp
          by_cases hlt : t < l.length
          · skip
            have hti : (0 : Int) ≤ (t : Int) := by omega
            have htl : (t : Int) < (l.length : Int) := by omega
            by_cases g1 : to ≤ (t : Int)
            · by_cases g2 : (t : Int) < to + n
              · skip
                have g4 : (0 : Int) ≤ from_ + (t : Int) - to := by omega
                have g5 : from_ + (t : Int) - to < (l.length : Int) := by omega
                have hu : coAt true from_ to n t = (from_ + (t : Int) - to).toNat := by rw [coAt, if_pos ⟨rfl, g1, g2⟩]
                have hult : (from_ + (t : Int) - to).toNat < l.length := by omega
                obtain ⟨ab, off, rfl, hab, hcells⟩ := HR.out (by omega)
                obtain ⟨ab2, off2, rfl, hab2, hcells2⟩ := HT.out (by have := HU.out; omega)
                obtain ⟨x, hx⟩ : ∃ x, l[(from_ + (t : Int) - to).toNat]? = some x := ⟨_, List.getElem?_eq_getElem hult⟩
                obtain ⟨s, hs⟩ : ∃ s, st[(from_ + (t : Int) - to).toNat]? = some s := ⟨_, List.getElem?_eq_getElem (by have := HU.out; omega)⟩
                obtain ⟨x0, x1, x2⟩ := hcells (from_ + (t : Int) - to).toNat x hx
                have s0 := hcells2 (from_ + (t : Int) - to).toNat s hs
                have HX := Lib.hid hx
                have HX0 := Lib.hid x0
                have HX1 := Lib.hid x1
                have HX2 := Lib.hid x2
                have HS := Lib.hid hs
                have HS0 := Lib.hid s0
                clear hcells hcells2 hx x0 x1 x2 hs s0
                have cw := co_w CV.out hlt (from_ + (t : Int) - to).toNat hu hult s HS.out x HX.out
                clear hu
                have CW := Lib.hid cw
                clear cw
                cases s
                · skip
                  obtain ⟨lp, hp, fp⟩ := b.out.see
                  go_wp2_with fail
                  refine (off_yesX _ t (by unfold wrap64; omega)).mono ?_
                  rintro e w4 ⟨rfl, b4⟩
                  have z4 : Below W.heap.size W w4 := stepB (by repeat (first | exact z | (refine allocB ?_ (Nat.le_refl _) _) | apply Below.drew | (refine drewNB ?_ _))) (Nat.le_refl _) b4
                  have m4 := Mem.below (by repeat (first | exact m | apply Mem.alloc | apply Mem.drew | apply Mem.drewN)) b4
                  have p_4 : Hid (Box w4 w3.heap.size #[.bool true, .int .i64 1, .int .i64 0]) := Lib.hid (Box.below (by repeat (first | exact Box.newAt (by simp; done) | exact b.out | exact Box.newAt rfl | apply Box.alloc | apply Box.drew | apply Box.drewN)) b4)
                  clear b lp hp fp
                  obtain ⟨lp, hp, fp⟩ := p_4.out.see
                  have nq_5 : ¬ F3 w4.heap.size := fun h => Nat.lt_irrefl _ (m4.low _ h).2
                  go_wp2_with fail
                  refine (Mem.loadX (by repeat (first | exact m4 | apply Mem.alloc | apply Mem.drew | apply Mem.drewN)) false 0 0 14 (CW.out.2.2 (by simp)) CW.out.1).mono ?_
                  rintro e w5 ⟨rfl, b5⟩
                  have z5 : Below W.heap.size W w5 := stepB (by repeat (first | exact z4 | (refine allocB ?_ (Nat.le_refl _) _) | apply Below.drew | (refine drewNB ?_ _))) (Nat.le_refl _) b5
                  have m5 := Mem.below (by repeat (first | exact m4 | apply Mem.alloc | apply Mem.drew | apply Mem.drewN)) b5
                  have p_5 : Hid (Box w5 w3.heap.size #[.bool true, .int .i64 1, .int .i64 0]) := Lib.hid (Box.below (by repeat (first | exact Box.newAt (by simp; done) | exact p_4.out | exact Box.newAt rfl | apply Box.alloc | apply Box.drew | apply Box.drewN)) b5)
                  clear p_4 lp hp fp
                  obtain ⟨lp, hp, fp⟩ := p_5.out.see
                  have q_5 : Hid (Box w5 w4.heap.size #[.bool true, .int .i64 1, .int .i64 t]) := Lib.hid (Box.below (by repeat (first | exact Box.newAt (by simp; done) | exact Box.newAt rfl | apply Box.alloc | apply Box.drew | apply Box.drewN)) b5)
                  obtain ⟨lq, hq, fq⟩ := q_5.out.see
                  clear q_5 lq hq fq
                  have y0 : w5.cell? ⟨ab, off + (from_ + (t : Int) - to).toNat * 3, none⟩ = some (.bool x.p) := (z5.cell (p := ⟨ab, off + (from_ + (t : Int) - to).toNat * 3, none⟩) hab).trans HX0.out
                  have y1 : w5.cell? ⟨ab, off + (from_ + (t : Int) - to).toNat * 3 + 1, none⟩ = some (.int .i64 x.a) := (z5.cell (p := ⟨ab, off + (from_ + (t : Int) - to).toNat * 3 + 1, none⟩) hab).trans HX1.out
                  have y2 : w5.cell? ⟨ab, off + (from_ + (t : Int) - to).toNat * 3 + 2, none⟩ = some (.int .i64 x.n) := (z5.cell (p := ⟨ab, off + (from_ + (t : Int) - to).toNat * 3 + 2, none⟩) hab).trans HX2.out
                  have habw : ab < w5.heap.size := by have := z5.size; omega
                  have y3 : w5.cell? ⟨ab2, off2 + (from_ + (t : Int) - to).toNat, none⟩ = some (.bool false) := (z5.cell (p := ⟨ab2, off2 + (from_ + (t : Int) - to).toNat, none⟩) hab2).trans HS0.out
                  have habw2 : ab2 < w5.heap.size := by have := z5.size; omega
                  go_wp2_with fail
                  go_quiet (fail)
                  go_wp2
                  go_roundw
                  case rel => exact ⟨t + 1, by omega, by go_num, by repeat (first | exact m5 | apply Mem.alloc | apply Mem.drew | apply Mem.drewN), Lib.hid (by repeat (first | exact Box.newAt (by simp; done) | exact p_5.out | exact Box.newAt rfl | apply Box.alloc | apply Box.drew | apply Box.drewN)), by repeat (first | exact z5 | (refine allocB ?_ (Nat.le_refl _) _) | apply Below.drew | (refine drewNB ?_ _))⟩
                  case measure => simp [intOf]; omega
                · skip
                  obtain ⟨lp, hp, fp⟩ := b.out.see
                  go_wp2_with fail
                  refine (off_yesX _ t (by unfold wrap64; omega)).mono ?_
                  rintro e w4 ⟨rfl, b4⟩
                  have z4 : Below W.heap.size W w4 := stepB (by repeat (first | exact z | (refine allocB ?_ (Nat.le_refl _) _) | apply Below.drew | (refine drewNB ?_ _))) (Nat.le_refl _) b4
                  have m4 := Mem.below (by repeat (first | exact m | apply Mem.alloc | apply Mem.drew | apply Mem.drewN)) b4
                  have p_4 : Hid (Box w4 w3.heap.size #[.bool true, .int .i64 1, .int .i64 0]) := Lib.hid (Box.below (by repeat (first | exact Box.newAt (by simp; done) | exact b.out | exact Box.newAt rfl | apply Box.alloc | apply Box.drew | apply Box.drewN)) b4)
                  clear b lp hp fp
                  obtain ⟨lp, hp, fp⟩ := p_4.out.see
                  have nq_5 : ¬ F3 w4.heap.size := fun h => Nat.lt_irrefl _ (m4.low _ h).2
                  go_wp2_with fail
                  refine (Mem.loadX (by repeat (first | exact m4 | apply Mem.alloc | apply Mem.drew | apply Mem.drewN)) x.p x.a x.n 0 (CW.out.2.1 (by simp)) CW.out.1).mono ?_
                  rintro e w5 ⟨rfl, b5⟩
                  have z5 : Below W.heap.size W w5 := stepB (by repeat (first | exact z4 | (refine allocB ?_ (Nat.le_refl _) _) | apply Below.drew | (refine drewNB ?_ _))) (Nat.le_refl _) b5
                  have m5 := Mem.below (by repeat (first | exact m4 | apply Mem.alloc | apply Mem.drew | apply Mem.drewN)) b5
                  have p_5 : Hid (Box w5 w3.heap.size #[.bool true, .int .i64 1, .int .i64 0]) := Lib.hid (Box.below (by repeat (first | exact Box.newAt (by simp; done) | exact p_4.out | exact Box.newAt rfl | apply Box.alloc | apply Box.drew | apply Box.drewN)) b5)
                  clear p_4 lp hp fp
                  obtain ⟨lp, hp, fp⟩ := p_5.out.see
                  have q_5 : Hid (Box w5 w4.heap.size #[.bool true, .int .i64 1, .int .i64 t]) := Lib.hid (Box.below (by repeat (first | exact Box.newAt (by simp; done) | exact Box.newAt rfl | apply Box.alloc | apply Box.drew | apply Box.drewN)) b5)
                  obtain ⟨lq, hq, fq⟩ := q_5.out.see
                  clear q_5 lq hq fq
                  have y0 : w5.cell? ⟨ab, off + (from_ + (t : Int) - to).toNat * 3, none⟩ = some (.bool x.p) := (z5.cell (p := ⟨ab, off + (from_ + (t : Int) - to).toNat * 3, none⟩) hab).trans HX0.out
                  have y1 : w5.cell? ⟨ab, off + (from_ + (t : Int) - to).toNat * 3 + 1, none⟩ = some (.int .i64 x.a) := (z5.cell (p := ⟨ab, off + (from_ + (t : Int) - to).toNat * 3 + 1, none⟩) hab).trans HX1.out
                  have y2 : w5.cell? ⟨ab, off + (from_ + (t : Int) - to).toNat * 3 + 2, none⟩ = some (.int .i64 x.n) := (z5.cell (p := ⟨ab, off + (from_ + (t : Int) - to).toNat * 3 + 2, none⟩) hab).trans HX2.out
                  have habw : ab < w5.heap.size := by have := z5.size; omega
                  have y3 : w5.cell? ⟨ab2, off2 + (from_ + (t : Int) - to).toNat, none⟩ = some (.bool true) := (z5.cell (p := ⟨ab2, off2 + (from_ + (t : Int) - to).toNat, none⟩) hab2).trans HS0.out
                  have habw2 : ab2 < w5.heap.size := by have := z5.size; omega
                  go_wp2_with fail
                  go_quiet (fail)
                  go_wp2
                  go_roundw
                  case rel => exact ⟨t + 1, by omega, by go_num, by repeat (first | exact m5 | apply Mem.alloc | apply Mem.drew | apply Mem.drewN), Lib.hid (by repeat (first | exact Box.newAt (by simp; done) | exact p_5.out | exact Box.newAt rfl | apply Box.alloc | apply Box.drew | apply Box.drewN)), by repeat (first | exact z5 | (refine allocB ?_ (Nat.le_refl _) _) | apply Below.drew | (refine drewNB ?_ _))⟩
                  case measure => simp [intOf]; omega
              · skip
                have g3 : to + n ≤ (t : Int) := by omega
                have hu : coAt true from_ to n t = t := by rw [coAt, if_neg (fun q => g2 q.2.2)]
                have hult : t < l.length := by omega
                obtain ⟨ab, off, rfl, hab, hcells⟩ := HR.out (by omega)
                obtain ⟨ab2, off2, rfl, hab2, hcells2⟩ := HT.out (by have := HU.out; omega)
                obtain ⟨x, hx⟩ : ∃ x, l[t]? = some x := ⟨_, List.getElem?_eq_getElem hult⟩
                obtain ⟨s, hs⟩ : ∃ s, st[t]? = some s := ⟨_, List.getElem?_eq_getElem (by have := HU.out; omega)⟩
                obtain ⟨x0, x1, x2⟩ := hcells t x hx
                have s0 := hcells2 t s hs
                have HX := Lib.hid hx
                have HX0 := Lib.hid x0
                have HX1 := Lib.hid x1
                have HX2 := Lib.hid x2
                have HS := Lib.hid hs
                have HS0 := Lib.hid s0
                clear hcells hcells2 hx x0 x1 x2 hs s0
                have cw := co_w CV.out hlt t hu hult s HS.out x HX.out
                clear hu
                have CW := Lib.hid cw
                clear cw
                cases s
                · skip
                  obtain ⟨lp, hp, fp⟩ := b.out.see
                  go_wp2_with fail
                  refine (off_yesX _ t (by unfold wrap64; omega)).mono ?_
                  rintro e w4 ⟨rfl, b4⟩
                  have z4 : Below W.heap.size W w4 := stepB (by repeat (first | exact z | (refine allocB ?_ (Nat.le_refl _) _) | apply Below.drew | (refine drewNB ?_ _))) (Nat.le_refl _) b4
                  have m4 := Mem.below (by repeat (first | exact m | apply Mem.alloc | apply Mem.drew | apply Mem.drewN)) b4
                  have p_4 : Hid (Box w4 w3.heap.size #[.bool true, .int .i64 1, .int .i64 0]) := Lib.hid (Box.below (by repeat (first | exact Box.newAt (by simp; done) | exact b.out | exact Box.newAt rfl | apply Box.alloc | apply Box.drew | apply Box.drewN)) b4)
                  clear b lp hp fp
                  obtain ⟨lp, hp, fp⟩ := p_4.out.see
                  have nq_5 : ¬ F3 w4.heap.size := fun h => Nat.lt_irrefl _ (m4.low _ h).2
                  go_wp2_with fail
                  refine (Mem.loadX (by repeat (first | exact m4 | apply Mem.alloc | apply Mem.drew | apply Mem.drewN)) false 0 0 14 (CW.out.2.2 (by simp)) CW.out.1).mono ?_
                  rintro e w5 ⟨rfl, b5⟩
                  have z5 : Below W.heap.size W w5 := stepB (by repeat (first | exact z4 | (refine allocB ?_ (Nat.le_refl _) _) | apply Below.drew | (refine drewNB ?_ _))) (Nat.le_refl _) b5
                  have m5 := Mem.below (by repeat (first | exact m4 | apply Mem.alloc | apply Mem.drew | apply Mem.drewN)) b5
                  have p_5 : Hid (Box w5 w3.heap.size #[.bool true, .int .i64 1, .int .i64 0]) := Lib.hid (Box.below (by repeat (first | exact Box.newAt (by simp; done) | exact p_4.out | exact Box.newAt rfl | apply Box.alloc | apply Box.drew | apply Box.drewN)) b5)
                  clear p_4 lp hp fp
                  obtain ⟨lp, hp, fp⟩ := p_5.out.see
                  have q_5 : Hid (Box w5 w4.heap.size #[.bool true, .int .i64 1, .int .i64 t]) := Lib.hid (Box.below (by repeat (first | exact Box.newAt (by simp; done) | exact Box.newAt rfl | apply Box.alloc | apply Box.drew | apply Box.drewN)) b5)
                  obtain ⟨lq, hq, fq⟩ := q_5.out.see
                  clear q_5 lq hq fq
                  have y0 : w5.cell? ⟨ab, off + t * 3, none⟩ = some (.bool x.p) := (z5.cell (p := ⟨ab, off + t * 3, none⟩) hab).trans HX0.out
                  have y1 : w5.cell? ⟨ab, off + t * 3 + 1, none⟩ = some (.int .i64 x.a) := (z5.cell (p := ⟨ab, off + t * 3 + 1, none⟩) hab).trans HX1.out
                  have y2 : w5.cell? ⟨ab, off + t * 3 + 2, none⟩ = some (.int .i64 x.n) := (z5.cell (p := ⟨ab, off + t * 3 + 2, none⟩) hab).trans HX2.out
                  have habw : ab < w5.heap.size := by have := z5.size; omega
                  have y3 : w5.cell? ⟨ab2, off2 + t, none⟩ = some (.bool false) := (z5.cell (p := ⟨ab2, off2 + t, none⟩) hab2).trans HS0.out
                  have habw2 : ab2 < w5.heap.size := by have := z5.size; omega
                  go_wp2_with fail
                  go_quiet (fail)
                  go_wp2
                  go_roundw
                  case rel => exact ⟨t + 1, by omega, by go_num, by repeat (first | exact m5 | apply Mem.alloc | apply Mem.drew | apply Mem.drewN), Lib.hid (by repeat (first | exact Box.newAt (by simp; done) | exact p_5.out | exact Box.newAt rfl | apply Box.alloc | apply Box.drew | apply Box.drewN)), by repeat (first | exact z5 | (refine allocB ?_ (Nat.le_refl _) _) | apply Below.drew | (refine drewNB ?_ _))⟩
                  case measure => simp [intOf]; omega
                · skip
                  obtain ⟨lp, hp, fp⟩ := b.out.see
                  go_wp2_with fail
                  refine (off_yesX _ t (by unfold wrap64; omega)).mono ?_
                  rintro e w4 ⟨rfl, b4⟩
                  have z4 : Below W.heap.size W w4 := stepB (by repeat (first | exact z | (refine allocB ?_ (Nat.le_refl _) _) | apply Below.drew | (refine drewNB ?_ _))) (Nat.le_refl _) b4
                  have m4 := Mem.below (by repeat (first | exact m | apply Mem.alloc | apply Mem.drew | apply Mem.drewN)) b4
                  have p_4 : Hid (Box w4 w3.heap.size #[.bool true, .int .i64 1, .int .i64 0]) := Lib.hid (Box.below (by repeat (first | exact Box.newAt (by simp; done) | exact b.out | exact Box.newAt rfl | apply Box.alloc | apply Box.drew | apply Box.drewN)) b4)
                  clear b lp hp fp
                  obtain ⟨lp, hp, fp⟩ := p_4.out.see
                  have nq_5 : ¬ F3 w4.heap.size := fun h => Nat.lt_irrefl _ (m4.low _ h).2
                  go_wp2_with fail
                  refine (Mem.loadX (by repeat (first | exact m4 | apply Mem.alloc | apply Mem.drew | apply Mem.drewN)) x.p x.a x.n 0 (CW.out.2.1 (by simp)) CW.out.1).mono ?_
                  rintro e w5 ⟨rfl, b5⟩
                  have z5 : Below W.heap.size W w5 := stepB (by repeat (first | exact z4 | (refine allocB ?_ (Nat.le_refl _) _) | apply Below.drew | (refine drewNB ?_ _))) (Nat.le_refl _) b5
                  have m5 := Mem.below (by repeat (first | exact m4 | apply Mem.alloc | apply Mem.drew | apply Mem.drewN)) b5
                  have p_5 : Hid (Box w5 w3.heap.size #[.bool true, .int .i64 1, .int .i64 0]) := Lib.hid (Box.below (by repeat (first | exact Box.newAt (by simp; done) | exact p_4.out | exact Box.newAt rfl | apply Box.alloc | apply Box.drew | apply Box.drewN)) b5)
                  clear p_4 lp hp fp
                  obtain ⟨lp, hp, fp⟩ := p_5.out.see
                  have q_5 : Hid (Box w5 w4.heap.size #[.bool true, .int .i64 1, .int .i64 t]) := Lib.hid (Box.below (by repeat (first | exact Box.newAt (by simp; done) | exact Box.newAt rfl | apply Box.alloc | apply Box.drew | apply Box.drewN)) b5)
                  obtain ⟨lq, hq, fq⟩ := q_5.out.see
                  clear q_5 lq hq fq
                  have y0 : w5.cell? ⟨ab, off + t * 3, none⟩ = some (.bool x.p) := (z5.cell (p := ⟨ab, off + t * 3, none⟩) hab).trans HX0.out
                  have y1 : w5.cell? ⟨ab, off + t * 3 + 1, none⟩ = some (.int .i64 x.a) := (z5.cell (p := ⟨ab, off + t * 3 + 1, none⟩) hab).trans HX1.out
                  have y2 : w5.cell? ⟨ab, off + t * 3 + 2, none⟩ = some (.int .i64 x.n) := (z5.cell (p := ⟨ab, off + t * 3 + 2, none⟩) hab).trans HX2.out
                  have habw : ab < w5.heap.size := by have := z5.size; omega
                  have y3 : w5.cell? ⟨ab2, off2 + t, none⟩ = some (.bool true) := (z5.cell (p := ⟨ab2, off2 + t, none⟩) hab2).trans HS0.out
                  have habw2 : ab2 < w5.heap.size := by have := z5.size; omega
                  go_wp2_with fail
                  go_quiet (fail)
                  go_wp2
                  go_roundw
                  case rel => exact ⟨t + 1, by omega, by go_num, by repeat (first | exact m5 | apply Mem.alloc | apply Mem.drew | apply Mem.drewN), Lib.hid (by repeat (first | exact Box.newAt (by simp; done) | exact p_5.out | exact Box.newAt rfl | apply Box.alloc | apply Box.drew | apply Box.drewN)), by repeat (first | exact z5 | (refine allocB ?_ (Nat.le_refl _) _) | apply Below.drew | (refine drewNB ?_ _))⟩
                  case measure => simp [intOf]; omega
            · skip
              have g3 : (t : Int) < to := by omega
              have hu : coAt true from_ to n t = t := by rw [coAt, if_neg (fun q => g1 q.2.1)]
              have hult : t < l.length := by omega
              obtain ⟨ab, off, rfl, hab, hcells⟩ := HR.out (by omega)
              obtain ⟨ab2, off2, rfl, hab2, hcells2⟩ := HT.out (by have := HU.out; omega)
              obtain ⟨x, hx⟩ : ∃ x, l[t]? = some x := ⟨_, List.getElem?_eq_getElem hult⟩
              obtain ⟨s, hs⟩ : ∃ s, st[t]? = some s := ⟨_, List.getElem?_eq_getElem (by have := HU.out; omega)⟩
              obtain ⟨x0, x1, x2⟩ := hcells t x hx
              have s0 := hcells2 t s hs
              have HX := Lib.hid hx
              have HX0 := Lib.hid x0
              have HX1 := Lib.hid x1
              have HX2 := Lib.hid x2
              have HS := Lib.hid hs
              have HS0 := Lib.hid s0
              clear hcells hcells2 hx x0 x1 x2 hs s0
              have cw := co_w CV.out hlt t hu hult s HS.out x HX.out
              clear hu
              have CW := Lib.hid cw
              clear cw
              cases s
              · skip
                obtain ⟨lp, hp, fp⟩ := b.out.see
                go_wp2_with fail
                refine (off_yesX _ t (by unfold wrap64; omega)).mono ?_
                rintro e w4 ⟨rfl, b4⟩
                have z4 : Below W.heap.size W w4 := stepB (by repeat (first | exact z | (refine allocB ?_ (Nat.le_refl _) _) | apply Below.drew | (refine drewNB ?_ _))) (Nat.le_refl _) b4
                have m4 := Mem.below (by repeat (first | exact m | apply Mem.alloc | apply Mem.drew | apply Mem.drewN)) b4
                have p_4 : Hid (Box w4 w3.heap.size #[.bool true, .int .i64 1, .int .i64 0]) := Lib.hid (Box.below (by repeat (first | exact Box.newAt (by simp; done) | exact b.out | exact Box.newAt rfl | apply Box.alloc | apply Box.drew | apply Box.drewN)) b4)
                clear b lp hp fp
                obtain ⟨lp, hp, fp⟩ := p_4.out.see
                have nq_5 : ¬ F3 w4.heap.size := fun h => Nat.lt_irrefl _ (m4.low _ h).2
                go_wp2_with fail
                refine (Mem.loadX (by repeat (first | exact m4 | apply Mem.alloc | apply Mem.drew | apply Mem.drewN)) false 0 0 14 (CW.out.2.2 (by simp)) CW.out.1).mono ?_
                rintro e w5 ⟨rfl, b5⟩
                have z5 : Below W.heap.size W w5 := stepB (by repeat (first | exact z4 | (refine allocB ?_ (Nat.le_refl _) _) | apply Below.drew | (refine drewNB ?_ _))) (Nat.le_refl _) b5
                have m5 := Mem.below (by repeat (first | exact m4 | apply Mem.alloc | apply Mem.drew | apply Mem.drewN)) b5
                have p_5 : Hid (Box w5 w3.heap.size #[.bool true, .int .i64 1, .int .i64 0]) := Lib.hid (Box.below (by repeat (first | exact Box.newAt (by simp; done) | exact p_4.out | exact Box.newAt rfl | apply Box.alloc | apply Box.drew | apply Box.drewN)) b5)
                clear p_4 lp hp fp
                obtain ⟨lp, hp, fp⟩ := p_5.out.see
                have q_5 : Hid (Box w5 w4.heap.size #[.bool true, .int .i64 1, .int .i64 t]) := Lib.hid (Box.below (by repeat (first | exact Box.newAt (by simp; done) | exact Box.newAt rfl | apply Box.alloc | apply Box.drew | apply Box.drewN)) b5)
                obtain ⟨lq, hq, fq⟩ := q_5.out.see
                clear q_5 lq hq fq
                have y0 : w5.cell? ⟨ab, off + t * 3, none⟩ = some (.bool x.p) := (z5.cell (p := ⟨ab, off + t * 3, none⟩) hab).trans HX0.out
                have y1 : w5.cell? ⟨ab, off + t * 3 + 1, none⟩ = some (.int .i64 x.a) := (z5.cell (p := ⟨ab, off + t * 3 + 1, none⟩) hab).trans HX1.out
                have y2 : w5.cell? ⟨ab, off + t * 3 + 2, none⟩ = some (.int .i64 x.n) := (z5.cell (p := ⟨ab, off + t * 3 + 2, none⟩) hab).trans HX2.out
                have habw : ab < w5.heap.size := by have := z5.size; omega
                have y3 : w5.cell? ⟨ab2, off2 + t, none⟩ = some (.bool false) := (z5.cell (p := ⟨ab2, off2 + t, none⟩) hab2).trans HS0.out
                have habw2 : ab2 < w5.heap.size := by have := z5.size; omega
                go_wp2_with fail
                go_quiet (fail)
                go_wp2
                go_roundw
                case rel => exact ⟨t + 1, by omega, by go_num, by repeat (first | exact m5 | apply Mem.alloc | apply Mem.drew | apply Mem.drewN), Lib.hid (by repeat (first | exact Box.newAt (by simp; done) | exact p_5.out | exact Box.newAt rfl | apply Box.alloc | apply Box.drew | apply Box.drewN)), by repeat (first | exact z5 | (refine allocB ?_ (Nat.le_refl _) _) | apply Below.drew | (refine drewNB ?_ _))⟩
                case measure => simp [intOf]; omega
              · skip
                obtain ⟨lp, hp, fp⟩ := b.out.see
                go_wp2_with fail
                refine (off_yesX _ t (by unfold wrap64; omega)).mono ?_
                rintro e w4 ⟨rfl, b4⟩
                have z4 : Below W.heap.size W w4 := stepB (by repeat (first | exact z | (refine allocB ?_ (Nat.le_refl _) _) | apply Below.drew | (refine drewNB ?_ _))) (Nat.le_refl _) b4
                have m4 := Mem.below (by repeat (first | exact m | apply Mem.alloc | apply Mem.drew | apply Mem.drewN)) b4
                have p_4 : Hid (Box w4 w3.heap.size #[.bool true, .int .i64 1, .int .i64 0]) := Lib.hid (Box.below (by repeat (first | exact Box.newAt (by simp; done) | exact b.out | exact Box.newAt rfl | apply Box.alloc | apply Box.drew | apply Box.drewN)) b4)
                clear b lp hp fp
                obtain ⟨lp, hp, fp⟩ := p_4.out.see
                have nq_5 : ¬ F3 w4.heap.size := fun h => Nat.lt_irrefl _ (m4.low _ h).2
                go_wp2_with fail
                refine (Mem.loadX (by repeat (first | exact m4 | apply Mem.alloc | apply Mem.drew | apply Mem.drewN)) x.p x.a x.n 0 (CW.out.2.1 (by simp)) CW.out.1).mono ?_
                rintro e w5 ⟨rfl, b5⟩
                have z5 : Below W.heap.size W w5 := stepB (by repeat (first | exact z4 | (refine allocB ?_ (Nat.le_refl _) _) | apply Below.drew | (refine drewNB ?_ _))) (Nat.le_refl _) b5
                have m5 := Mem.below (by repeat (first | exact m4 | apply Mem.alloc | apply Mem.drew | apply Mem.drewN)) b5
                have p_5 : Hid (Box w5 w3.heap.size #[.bool true, .int .i64 1, .int .i64 0]) := Lib.hid (Box.below (by repeat (first | exact Box.newAt (by simp; done) | exact p_4.out | exact Box.newAt rfl | apply Box.alloc | apply Box.drew | apply Box.drewN)) b5)
                clear p_4 lp hp fp
                obtain ⟨lp, hp, fp⟩ := p_5.out.see
                have q_5 : Hid (Box w5 w4.heap.size #[.bool true, .int .i64 1, .int .i64 t]) := Lib.hid (Box.below (by repeat (first | exact Box.newAt (by simp; done) | exact Box.newAt rfl | apply Box.alloc | apply Box.drew | apply Box.drewN)) b5)
                obtain ⟨lq, hq, fq⟩ := q_5.out.see
                clear q_5 lq hq fq
                have y0 : w5.cell? ⟨ab, off + t * 3, none⟩ = some (.bool x.p) := (z5.cell (p := ⟨ab, off + t * 3, none⟩) hab).trans HX0.out
                have y1 : w5.cell? ⟨ab, off + t * 3 + 1, none⟩ = some (.int .i64 x.a) := (z5.cell (p := ⟨ab, off + t * 3 + 1, none⟩) hab).trans HX1.out
                have y2 : w5.cell? ⟨ab, off + t * 3 + 2, none⟩ = some (.int .i64 x.n) := (z5.cell (p := ⟨ab, off + t * 3 + 2, none⟩) hab).trans HX2.out
                have habw : ab < w5.heap.size := by have := z5.size; omega
                have y3 : w5.cell? ⟨ab2, off2 + t, none⟩ = some (.bool true) := (z5.cell (p := ⟨ab2, off2 + t, none⟩) hab2).trans HS0.out
                have habw2 : ab2 < w5.heap.size := by have := z5.size; omega
                go_wp2_with fail
                go_quiet (fail)
                go_wp2
                go_roundw
                case rel => exact ⟨t + 1, by omega, by go_num, by repeat (first | exact m5 | apply Mem.alloc | apply Mem.drew | apply Mem.drewN), Lib.hid (by repeat (first | exact Box.newAt (by simp; done) | exact p_5.out | exact Box.newAt rfl | apply Box.alloc | apply Box.drew | apply Box.drewN)), by repeat (first | exact z5 | (refine allocB ?_ (Nat.le_refl _) _) | apply Below.drew | (refine drewNB ?_ _))⟩
                case measure => simp [intOf]; omega
          · obtain rfl : t = l.length := by omega
            clear ht hlt
            go_wp2
            go_ret
            exact ⟨rfl, z⟩

theorem memCopies_walk (W : World) (l : List Wd) (A : Option Addr) (c : Nat) (hm : l.length ≤ maxLen) (hr : InW W A l) (st : List Bool) (A2 : Option Addr) (c2 : Nat) (_hm2 : st.length ≤ maxLen) (hr2 : InB W A2 st) (from_ to n : Int) :
    Calls Try.prog 7 #[.slice A l.length c, .slice A2 st.length c2, .int .i64 from_, .int .i64 to, .int .i64 n] W fun e W' => e = .returned (.bool true) ∧ Below W.heap.size W W' := by
  by_cases h : 40 < l.length ∨ l.length ≠ st.length ∨ from_ < 0 ∨ to < 0 ∨ n < 0 ∨ (l.length : Int) < from_ ∨ (l.length : Int) < to ∨ (l.length : Int) - from_ < n ∨ (l.length : Int) - to < n
  · exact memCopies_out l A c st A2 c2 from_ to n W hm h
  · exact memCopies_in l A c st A2 c2 from_ to n W hr hr2 (by omega) (by omega) (by omega) (by omega) (by omega) (by omega) (by omega)

end Go.Proofs.Ytkgiddpeaebdfaa
