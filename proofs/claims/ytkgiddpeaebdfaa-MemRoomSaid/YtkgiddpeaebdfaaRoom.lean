/- MemRoom: as many words as there is room for can be made, in whatever pieces, and not one more; what is freed can be made again. The walk of the law. -/
import Derived.Test.YtkgiddpeaebdfaaOpen
import Derived.LoopTactic
namespace Go.Proofs.Ytkgiddpeaebdfaa
open Go.RowKit

def rbk (n : Int) : Bk := ⟨List.replicate n.toNat Wd.zero, List.replicate n.toNat false, false⟩
def rmS (room : Int) (sz : List Int) : Me := ⟨room, sz.sum, sz.length, sz.map rbk⟩
def rmF (room : Int) (sz : List Int) (t : Nat) : Me := ⟨room, (sz.drop t).sum, (sz.length : Int) - t, List.replicate t Bk.none ++ (sz.drop t).map rbk⟩
def mads (n : Nat) : List Wd := (List.range n).map fun (j : Nat) => ⟨true, (j : Int) + 1, 0⟩
def nums (l : List Int) : List Value := l.map (Value.int .i64)

theorem mads_length (n : Nat) : (mads n).length = n := by simp [mads]
theorem mads_succ (n : Nat) : mads (n + 1) = mads n ++ [⟨true, (n : Int) + 1, 0⟩] := by simp [mads, List.range_succ]
theorem mads_get (n i : Nat) (h : i < n) : (mads n).getD i Wd.zero = ⟨true, (i : Int) + 1, 0⟩ := by simp [mads, List.getD_eq_getElem?_getD, h]
theorem nums_append (a b : List Int) : nums (a ++ b) = nums a ++ nums b := by simp [nums]

section
variable {room x : Int} {sz : List Int} {t : Nat}
theorem rm_new (h0 : 0 ≤ room) (h1 : room ≤ 1000) : Me.new room = rmS room [] := by simp [Me.new, rmS]; omega
theorem rm_e (h0 : 0 ≤ x) (h1 : x ≤ room - sz.sum) : (rmS room sz).allocE x = 0 := by simp [rmS, Me.allocE]; omega
theorem rm_1 (h0 : 0 ≤ x) (h1 : x ≤ room - sz.sum) : (rmS room sz).alloc x = rmS room (sz ++ [x]) := by rw [Me.alloc, if_pos (rm_e h0 h1)]; simp [rmS, rbk]
theorem rm_w (h0 : 0 ≤ x) (h1 : x ≤ room - sz.sum) : (rmS room sz).allocW x = ⟨true, (sz.length : Int) + 1, 0⟩ := by rw [Me.allocW, if_pos (rm_e h0 h1)]; simp [rmS]
theorem rm_e' (h0 : 0 ≤ x) (h1 : room - sz.sum < x) : (rmS room sz).allocE x = 10 := by
  have h2 : (rmS room sz).room - (rmS room sz).used < x := h1
  rw [Me.allocE, if_neg (by omega), if_pos h2]
theorem rm_1' (h0 : 0 ≤ x) (h1 : room - sz.sum < x) : (rmS room sz).alloc x = rmS room sz := by rw [Me.alloc, if_neg (by rw [rm_e' h0 h1]; decide)]
theorem rm_w' (h0 : 0 ≤ x) (h1 : room - sz.sum < x) : (rmS room sz).allocW x = ⟨false, 0, 0⟩ := by rw [Me.allocW, if_neg (by rw [rm_e' h0 h1]; decide)]; rfl
theorem rm_start : rmS room sz = rmF room sz 0 := by simp [rmS, rmF]
theorem rmF_at (_ht : t < sz.length) (y : Int) (hy : sz[t]? = some y) : (rmF room sz t).at ((t : Int) + 1) = rbk y := by
  have e : ((t : Int) + 1).toNat - 1 = t := by omega
  unfold Me.at
  rw [e, List.getD_eq_getElem?_getD]
  simp [rmF, List.getElem?_append, hy]
theorem rm_fe (ht : t < sz.length) (y : Int) (hy : sz[t]? = some y) : (rmF room sz t).freeE true ((t : Int) + 1) 0 = 0 := by
  have hb : (rmF room sz t).blockE true ((t : Int) + 1) = 0 := by
    have hl : (rmF room sz t).bs.length = sz.length := by simp [rmF]; omega
    unfold Me.blockE
    rw [if_neg (by decide), hl, if_neg (by omega), rmF_at ht y hy]
    rfl
  rw [Me.freeE, if_neg (by simp [hb]), if_neg (by decide)]
theorem rm_f (ht : t < sz.length) (y : Int) (hy : sz[t]? = some y) (h0 : 0 ≤ y) : (rmF room sz t).free true ((t : Int) + 1) 0 = rmF room sz (t + 1) := by
  have e : ((t : Int) + 1).toNat - 1 = t := by omega
  have hd : sz.drop t = y :: sz.drop (t + 1) := by
    rw [List.drop_eq_getElem_cons ht]
    have := List.getElem?_eq_getElem ht
    rw [this] at hy
    injection hy with hy
    rw [hy]
  rw [Me.free, if_pos (rm_fe ht y hy), rmF_at ht y hy, e]
  have hw : ((rbk y).ws.length : Int) = y := by simp [rbk]; omega
  rw [hw]
  unfold rmF
  rw [hd]
  simp only [Me.mk.injEq, List.sum_cons, List.map_cons, true_and]
  refine ⟨by omega, by omega, ?_⟩
  rw [List.set_append_right _ _ (by simp)]
  simp [List.replicate_succ', List.append_assoc]
theorem rm_used (_ht : t ≤ sz.length) : (rmF room sz t).used = (sz.drop t).sum := rfl
theorem rm_last (h0 : 0 ≤ room) (_h1 : room ≤ 1000) : (rmF room sz sz.length).allocE room = 0 := by
  have h2 : ¬ (rmF room sz sz.length).room - (rmF room sz sz.length).used < room := by simp [rmF]
  rw [Me.allocE, if_neg (by omega), if_neg h2]
theorem sum_drop (ht : t < sz.length) (y : Int) (hy : sz[t]? = some y) : (sz.drop t).sum = y + (sz.drop (t + 1)).sum := by
  rw [List.drop_eq_getElem_cons ht]
  have := List.getElem?_eq_getElem ht
  rw [this] at hy
  injection hy with hy
  simp [hy]
theorem sum_nonneg (h : ∀ y ∈ sz, 0 ≤ y) : 0 ≤ sz.sum := by
  induction sz with
  | nil => simp
  | cons a l ih =>
    have := h a (by simp)
    have := ih (fun y hy => h y (by simp [hy]))
    simp
    omega
theorem sum_drop_le (h : ∀ y ∈ sz, 0 ≤ y) (t : Nat) : 0 ≤ (sz.drop t).sum ∧ (sz.drop t).sum ≤ sz.sum := by
  induction sz generalizing t with
  | nil => simp
  | cons a l ih =>
    cases t with
    | zero => exact ⟨sum_nonneg h, by simp⟩
    | succ t =>
      have := h a (by simp)
      have := ih (fun y hy => h y (by simp [hy])) t
      simp
      omega
end

theorem Mem.grown {B : Nat} {W W' : World} {g : Nat} {F : Nat → Prop} {S : Me} (h : Mem B W g F S) {row : Option Nat} (hg : W.grownBy W' row) (hr : ∀ k, row = some k → ¬ F k) : Mem B W' g F S :=
  h.move hg.size (fun k hk => hg.block k (h.low k hk).2 (fun e => hr k e.symm hk))
theorem own_lt {w : World} {base : Nat} {e : TypeId} {size n : Nat} {v : Value} {xs : List Value} (h : w.ownsRow base e size v n xs) (k : Nat) (hk : v.ownBlock = some k) : base ≤ k ∧ ∃ cells, w.heap[k]? = some (.cells cells e (0, 0)) := by
  obtain ⟨_, ⟨rfl, _⟩ | ⟨g, cap, cur, hv, hb, hh, _⟩⟩ := h
  · simp [Value.ownBlock] at hk
  · rw [hv] at hk
    simp [Value.ownBlock] at hk
    exact hk ▸ ⟨hb, _, hh⟩
theorem own_below {w w1 : World} {base : Nat} {e : TypeId} {size n : Nat} {v : Value} {xs : List Value} (h : w.ownsRow base e size v n xs) (hb : Below w.heap.size w w1) : w1.ownsRow base e size v n xs :=
  own_move h (fun k hk => hb.block k (blk_lt (own_lt h k hk).2.choose_spec))
theorem own_kept {F : Nat → Prop} {w w1 : World} {base : Nat} {e : TypeId} {size n : Nat} {v : Value} {xs : List Value} (h : w.ownsRow base e size v n xs) (hk : Kept F w w1) (hn : ∀ k, v.ownBlock = some k → ¬ F k) : w1.ownsRow base e size v n xs :=
  own_move h (fun k hb => hk.block k (blk_lt (own_lt h k hb).2.choose_spec) (hn k hb))
theorem own_grown {w w1 : World} {base base' : Nat} {e e' : TypeId} {size n size' n' : Nat} {v u : Value} {xs ys : List Value} (h : w.ownsRow base e size v n xs) (hu : w.ownsRow base' e' size' u n' ys) (hg : w.grownBy w1 u.ownBlock) (hne : e ≠ e') : w1.ownsRow base e size v n xs := by
  refine own_move h (fun k hk => ?_)
  obtain ⟨_, cells, hc⟩ := own_lt h k hk
  refine hg.block k (blk_lt hc) (fun e1 => ?_)
  obtain ⟨_, cells', hc'⟩ := own_lt hu k e1.symm
  exact blk_ne hc hc' hne rfl
theorem own_slice {w : World} {base : Nat} {e : TypeId} {size n : Nat} {v : Value} {xs : List Value} (h : w.ownsRow base e size v n xs) : ∃ A c, v = .slice A n c := by
  obtain ⟨_, ⟨rfl, rfl⟩ | ⟨g, cap, cur, hv, _⟩⟩ := h
  · exact ⟨_, _, rfl⟩
  · exact ⟨_, _, hv⟩
/-- An element's cells of a row that is owned. -/
theorem own_at {w : World} {base : Nat} {e : TypeId} {size n : Nat} {A : Option Addr} {c : Nat} {xs : List Value} (h : w.ownsRow base e size (.slice A n c) n xs) (h0 : 0 < n) :
    ∃ g, A = some ⟨g, 0, none⟩ ∧ g < w.heap.size ∧ ∀ j u, xs[j]? = some u → w.cell? ⟨g, j, none⟩ = some u := by
  obtain ⟨hl, ⟨_, rfl⟩ | ⟨g, cap, cur, hv, _, hh, _, _, _, ht⟩⟩ := h
  · omega
  · injection hv with hv
    refine ⟨g, hv, blk_lt hh, fun j u hj => ?_⟩
    rw [blk_cell hh, ← Array.getElem?_toList]
    rw [← ht] at hj
    rw [List.getElem?_take] at hj
    split at hj
    · exact hj
    · cases hj

theorem Try.info3 : (Try.prog.info? 3).map (fun i => (i.zero, i.size, i.bytes)) = some (some (.int .i64 0), 1, 8) := by kernel_rfl

/-- What a loop's round keeps. -/
structure Rm (W wr : World) (B g : Nat) (F : Nat → Prop) (S : Me) (sz : List Int) (mv sv : Value) : Prop where
  mem : Mem B wr g F S
  made : wr.ownsRow W.heap.size 23 3 mv sz.length (wcells (mads sz.length))
  size : wr.ownsRow W.heap.size 3 1 sv sz.length (nums sz)
  nm : ∀ k, mv.ownBlock = some k → ¬ F k
  ns : ∀ k, sv.ownBlock = some k → ¬ F k
  old : Below W.heap.size W wr
  pos : ∀ y ∈ sz, 0 ≤ y

theorem Rm.below {W wr w' : World} {B g : Nat} {F : Nat → Prop} {S : Me} {sz : List Int} {mv sv : Value} (h : Rm W wr B g F S sz mv sv) (hb : Below wr.heap.size wr w') : Rm W w' B g F S sz mv sv :=
  ⟨h.mem.below hb, own_below h.made hb, own_below h.size hb, h.nm, h.ns, stepB h.old (Nat.le_refl _) hb, h.pos⟩
theorem Rm.kept {W wr w' : World} {B g : Nat} {F : Nat → Prop} {S S' : Me} {sz : List Int} {mv sv : Value} (h : Rm W wr B g F S sz mv sv) (hB : W.heap.size ≤ B) (m : Mem B w' g F S') (k : Kept F wr w') : Rm W w' B g F S' sz mv sv :=
  ⟨m, own_kept h.made k h.nm, own_kept h.size k h.ns, h.nm, h.ns, keptB (fun i hi => Nat.le_trans hB (h.mem.low i hi).1) h.old (Nat.le_refl _) k, h.pos⟩
theorem Rm.make {W wr w' : World} {B g : Nat} {F F' : Nat → Prop} {S S' : Me} {sz : List Int} {mv sv : Value} (h : Rm W wr B g F S sz mv sv) (hB : W.heap.size ≤ B) (m : Mem B w' g F' S') (q : ∀ k, F' k → F k ∨ wr.heap.size ≤ k) (k : Kept F wr w') : Rm W w' B g F' S' sz mv sv :=
  ⟨m, own_kept h.made k h.nm, own_kept h.size k h.ns, fun i hi hF => (q i hF).elim (h.nm i hi) (fun hle => absurd (blk_lt (own_lt h.made i hi).2.choose_spec) (by omega)),
   fun i hi hF => (q i hF).elim (h.ns i hi) (fun hle => absurd (blk_lt (own_lt h.size i hi).2.choose_spec) (by omega)), keptB (fun i hi => Nat.le_trans hB (h.mem.low i hi).1) h.old (Nat.le_refl _) k, h.pos⟩
theorem grownB {B : Nat} {W0 W W' : World} {row : Option Nat} (h : Below B W0 W) (hB : B ≤ W0.heap.size) (hg : W.grownBy W' row) (hr : ∀ k, row = some k → B ≤ k) : Below B W0 W' := h.grown hg (Nat.le_trans hB h.size) hr


theorem rm_push {W X w4 X2 w5 : World} {B g : Nat} {F : Nat → Prop} {S : Me} {sz : List Int} {mv sv v4 v5 : Value} {x : Int} (r : Rm W X B g F S sz mv sv) (b : Below w4.heap.size w4 X2)
    (own4 : w4.ownsRow W.heap.size 23 3 v4 (sz.length + 1) (wcells (mads sz.length) ++ [.bool true, .int .i64 ((sz.length : Int) + 1), .int .i64 0])) (grow4 : X.grownBy w4 mv.ownBlock) (at4 : v4.ownBlock = mv.ownBlock ∨ v4.ownBlock = some X.heap.size)
    (own5 : w5.ownsRow W.heap.size 3 1 v5 (sz.length + 1) (nums sz ++ [.int .i64 x])) (grow5 : X2.grownBy w5 sv.ownBlock) (at5 : v5.ownBlock = sv.ownBlock ∨ v5.ownBlock = some X2.heap.size) (hx : 0 ≤ x) :
    Rm W w5 B g F S (sz ++ [x]) v4 v5 := by
  have o4 := own_below own4 b
  have s4 := own_below (own_grown r.size r.made grow4 (by decide)) b
  have z4 : Below W.heap.size W w4 := grownB r.old (Nat.le_refl _) grow4 (fun k hk => (own_lt r.made k hk).1)
  have z5 : Below W.heap.size W X2 := stepB z4 (Nat.le_refl _) b
  refine ⟨((r.mem.grown grow4 r.nm).below b).grown grow5 r.ns, ?_, ?_, ?_, ?_, grownB z5 (Nat.le_refl _) grow5 (fun k hk => (own_lt s4 k hk).1), ?_⟩
  · have := own_grown o4 s4 grow5 (by decide)
    rw [List.length_append, List.length_singleton, mads_succ, wcells_append]
    exact this
  · rw [List.length_append, List.length_singleton, nums_append]
    exact own5
  · intro k hk hF
    rcases at4 with e | e
    · exact r.nm k (e ▸ hk) hF
    · rw [e] at hk
      injection hk with hk
      have := (r.mem.low k hF).2
      omega
  · intro k hk hF
    rcases at5 with e | e
    · exact r.ns k (e ▸ hk) hF
    · rw [e] at hk
      injection hk with hk
      have := (r.mem.low k hF).2
      have := grow4.size
      have := b.size
      omega
  · intro y hy
    rcases List.mem_append.1 hy with hy | hy
    · exact r.pos y hy
    · simp at hy; omega

set_option maxRecDepth 100000 in
set_option maxHeartbeats 1000000 in
theorem memRoom_out (room : Int) (l : List Int) (A : Option Addr) (c : Nat) (W : World) (hm : l.length ≤ maxLen) (h : room < 0 ∨ 1000 < room ∨ 40 < l.length) :
    Calls Try.prog 5 #[.int .i64 room, .slice A l.length c] W fun e W' => e = .returned (.bool true) ∧ Below W.heap.size W W' := by
  have C1 := Lib.hid (works_any W)
  have H := Lib.hid h
  clear h
  unfold maxLen at hm
  go_enter Try.func5, Try.ntmps5
  go_wp2_with fail
  refine C1.out.mono ?_
  rintro e w1 ⟨rfl, b1⟩
  go_wp2_with fail
  all_goals first
    | (exfalso; have := H.out; omega)
    | (go_ret; exact ⟨rfl, stepB (Below.refl _ _) (Nat.le_refl _) b1⟩)

set_option maxRecDepth 100000 in
set_option maxHeartbeats 4000000 in
theorem memRoom_in (room : Int) (l : List Int) (A : Option Addr) (c : Nat) (W : World) (hr : InI W A l) (h0 : 0 ≤ room) (h1 : room ≤ 1000) (h2 : l.length ≤ 40) :
    Calls Try.prog 5 #[.int .i64 room, .slice A l.length c] W fun e W' => e = .returned (.bool true) ∧ Below W.heap.size W W' := by
  have HR := Lib.hid hr
  clear hr
  have HI := Lib.hid (info_parts Try.info3)
  have HW := Lib.hid (info_parts Try.info23)
  go_enter Try.func5, Try.ntmps5
  go_wp2_with fail
  refine (works_any _).mono ?_
  rintro e w1 ⟨rfl, b1⟩
  have z1 : Below W.heap.size W w1 := stepB (by repeat (first | exact Below.refl _ _ | (refine allocB ?_ (Nat.le_refl _) _) | apply Below.drew | (refine drewNB ?_ _))) (Nat.le_refl _) b1
  go_wp2_with fail
  refine (Mem.new _ room).mono ?_
  rintro e w2 ⟨rfl, m2, b2, _⟩
  have z2 : Below W.heap.size W w2 := stepB (by repeat (first | exact z1 | (refine allocB ?_ (Nat.le_refl _) _) | apply Below.drew | (refine drewNB ?_ _))) (Nat.le_refl _) b2
  rw [rm_new h0 h1] at m2
  have hB : W.heap.size ≤ w1.heap.size := z1.size
  have r2 : Rm W w2 w1.heap.size w1.heap.size (fun k => k = w1.heap.size) (rmS room []) [] (.slice none 0 0) (.slice none 0 0) := ⟨m2, World.ownsRow_nil _ _ _ _, World.ownsRow_nil _ _ _ _, fun k hk => by simp [Value.ownBlock] at hk, fun k hk => by simp [Value.ownBlock] at hk, z2, fun y hy => by simp at hy⟩
  clear m2 b2 z2
  go_wp2_with fail
  go_loopw [7, 8, 9, 10] (fun lv mv sv i wr => ∃ (t : Nat) (F : Nat → Prop) (sz : List Int), t ≤ l.length ∧ sz.length ≤ t ∧ i = .int .i64 t ∧ lv = .int .i64 (room - sz.sum) ∧ sz.sum ≤ room ∧ Rm W wr w1.heap.size w1.heap.size F (rmS room sz) sz mv sv) (fun _ _ _ i _ => l.length - (intOf i).toNat)
  case atStart => exact ⟨0, _, [], Nat.zero_le _, Nat.zero_le _, rfl, by simp, by simpa using h0, r2⟩
  case round =>
    obtain ⟨t, F, sz, ht, hst, rfl, rfl, hsum, r⟩ := hrel
    clear r2
    have hs0 := sum_nonneg r.pos
    obtain ⟨mA, mc, rfl⟩ := own_slice r.made
    obtain ⟨sA, sc, rfl⟩ := own_slice r.size
    have R := Lib.hid r
    clear r
    by_cases hlt : t < l.length
    · skip
      obtain ⟨ab, off, rfl, hab, hcells⟩ := HR.out (by omega)
      obtain ⟨x, hx⟩ : ∃ x, l[t]? = some x := ⟨_, List.getElem?_eq_getElem hlt⟩
      have HX := Lib.hid (hcells t x hx)
      clear hcells hx
      have hab2 : ab < wr.heap.size := by have := R.out.old.size; omega
      have y0 : wr.cell? ⟨ab, off + t, none⟩ = some (.int .i64 x) := (R.out.old.cell (p := ⟨ab, off + t, none⟩) hab).trans HX.out
      have hti : (0 : Int) ≤ (t : Int) := by omega
      have htl : (t : Int) < (l.length : Int) := by omega
      by_cases hx0 : x < 0
      · go_wp2
        go_ret
        exact ⟨rfl, R.out.old⟩
      by_cases hx1 : 2000 < x
      · go_wp2
        go_ret
        exact ⟨rfl, R.out.old⟩
      by_cases hfit : x ≤ room - sz.sum
      · skip
        go_wp2_with fail
        refine (Mem.makeX R.out.mem (by have := R.out.mem.few; simp [rmS]; omega) true ((sz.length : Int) + 1) 0 0 (rmS room (sz ++ [x])) (rm_w (by omega) hfit) (rm_e (by omega) hfit) (rm_1 (by omega) hfit)).mono ?_
        rintro e w3 ⟨rfl, ⟨F3, m3, q3⟩, k3⟩
        have R3 := Lib.hid (R.out.make hB m3 q3 k3)
        have y1 : w3.cell? ⟨ab, off + t, none⟩ = some (.int .i64 x) := (R3.out.old.cell (p := ⟨ab, off + t, none⟩) hab).trans HX.out
        have hab3 : ab < w3.heap.size := by have := R3.out.old.size; omega
        have hxl : decide (x ≤ room - sz.sum) = true := by simpa using hfit
        clear m3 q3 k3
        obtain ⟨iw, hw, hwz, hws, hwb⟩ := HW.out
        obtain ⟨ii, hi, hiz, his, hib⟩ := HI.out
        go_wp2_with (first
          | (at_builtin; refine wpList_append_own_at _ rfl (.tmp 79) (.tmp 81) 29 rfl W.heap.size 23 iw _ 3 24 Try.underlying29 hw hwz hws hwb rfl (by decide) _ sz.length (wcells (mads sz.length)) rfl ?_ _ 1 1 [.bool true, .int .i64 ((sz.length : Int) + 1), .int .i64 0] rfl rfl ?_ ?_ ?_ ?_ ?_ ?_
             (exact own_below R3.out.made (by repeat (first | exact Below.refl _ _ | apply below_alloc | apply below_drew | (refine below_drewN ?_ _))))
             (exact cell_row (by simp) _ _)
             (intro u hu; simp at hu; rcases hu with rfl | rfl | rfl <;> rfl)
             (simp only [maxLen]; omega)
             omega
             (have := R3.out.old.size; simp; omega)
             (intro v4 w4 own4 grow4 nil4 at4
              clear nil4
              obtain ⟨A4, c4, rfl⟩ := own_succ own4
              have R4 := Lib.hid (R3.out.below (by repeat (first | exact Below.refl _ _ | apply below_alloc | apply below_drew | (refine below_drewN ?_ _))))
              have z4 : Below W.heap.size W w4 := grownB (stepB R3.out.old (Nat.le_refl _) (by repeat (first | exact Below.refl _ _ | apply below_alloc | apply below_drew | (refine below_drewN ?_ _)))) (Nat.le_refl _) grow4 (fun k hk => (own_lt R3.out.made k hk).1)
              have y2 : w4.cell? ⟨ab, off + t, none⟩ = some (.int .i64 x) := (z4.cell (p := ⟨ab, off + t, none⟩) hab).trans HX.out
              have hab4 : ab < w4.heap.size := by have := z4.size; omega
              have S4 := Lib.hid (own_grown (own_below R3.out.size (by repeat (first | exact Below.refl _ _ | apply below_alloc | apply below_drew | (refine below_drewN ?_ _)))) (own_below R3.out.made (by repeat (first | exact Below.refl _ _ | apply below_alloc | apply below_drew | (refine below_drewN ?_ _)))) grow4 (by decide))
              have O4 := Lib.hid (And.intro own4 (And.intro grow4 (And.intro at4 z4)))
              clear own4 grow4 at4 z4))
          | (at_builtin; refine wpList_append_own_at _ rfl (.tmp 83) (.tmp 88) 38 rfl W.heap.size 3 ii _ 1 8 Try.underlying38 hi hiz his hib rfl (by decide) _ sz.length (nums sz) rfl ?_ _ 1 1 [.int .i64 x] rfl rfl ?_ ?_ ?_ ?_ ?_ ?_
             (exact own_below S4.out (by repeat (first | exact Below.refl _ _ | apply below_alloc | apply below_drew | (refine below_drewN ?_ _))))
             (exact cell_row (by simp) _ _)
             (intro u hu; simp at hu; subst hu; rfl)
             (simp only [maxLen]; omega)
             omega
             (have := O4.out.2.2.2.size; simp; omega)
             (intro v5 w5 own5 grow5 nil5 at5
              have R5 := Lib.hid (rm_push (R3.out.below (by repeat (first | exact Below.refl _ _ | apply below_alloc | apply below_drew | (refine below_drewN ?_ _)))) (by repeat (first | exact Below.refl _ _ | apply below_alloc | apply below_drew | (refine below_drewN ?_ _))) O4.out.1 O4.out.2.1 O4.out.2.2.1 own5 grow5 at5 (by omega))
              clear own5 grow5 nil5 at5)))
        go_roundw
        case rel => exact ⟨t + 1, F3, sz ++ [x], by omega, by simp; omega, by go_num, by simp; omega, by simp; omega, R5.out⟩
        case measure => simp [intOf]; omega
      · skip
        go_wp2_with fail
        refine (Mem.makeX R.out.mem (by have := R.out.mem.few; simp [rmS]; omega) false 0 0 10 (rmS room sz) (rm_w' (by omega) (by omega)) (rm_e' (by omega) (by omega)) (rm_1' (by omega) (by omega))).mono ?_
        rintro e w3 ⟨rfl, ⟨F3, m3, q3⟩, k3⟩
        have R3 := Lib.hid (R.out.make hB m3 q3 k3)
        have y1 : w3.cell? ⟨ab, off + t, none⟩ = some (.int .i64 x) := (R3.out.old.cell (p := ⟨ab, off + t, none⟩) hab).trans HX.out
        have hab3 : ab < w3.heap.size := by have := R3.out.old.size; omega
        have hxl : decide (x ≤ room - sz.sum) = false := by simpa using hfit
        clear m3 q3 k3
        go_wp2
        go_roundw
        case rel => exact ⟨t + 1, F3, sz, by omega, by omega, by go_num, rfl, hsum, R3.out.below (by repeat (first | exact Below.refl _ _ | apply below_alloc | apply below_drew | (refine below_drewN ?_ _)))⟩
        case measure => simp [intOf]; omega
    · obtain rfl : t = l.length := by omega
      clear ht hlt
      have R0 : Rm W wr w1.heap.size w1.heap.size F (rmF room sz 0) sz (.slice mA sz.length mc) (.slice sA sz.length sc) := rm_start ▸ R.out
      have P := Lib.hid R.out.pos
      have hlen : sz.length ≤ 40 := by omega
      clear R hst
      go_wp2_with fail
      go_loopw [7, 13] (fun lv i wr => ∃ t : Nat, t ≤ sz.length ∧ i = .int .i64 t ∧ lv = .int .i64 (room - (sz.drop t).sum) ∧ Rm W wr w1.heap.size w1.heap.size F (rmF room sz t) sz (.slice mA sz.length mc) (.slice sA sz.length sc)) (fun _ i _ => sz.length - (intOf i).toNat)
      case atStart => exact ⟨0, Nat.zero_le _, rfl, by simp, R0⟩
      case round =>
        obtain ⟨t, ht, rfl, rfl, r⟩ := hrel
        clear R0
        have R := Lib.hid r
        clear r
        obtain ⟨D, hD⟩ : ∃ D, D = (sz.drop t).sum := ⟨_, rfl⟩
        have hd := sum_drop_le P.out t
        rw [← hD] at hd ⊢
        obtain ⟨hd0, hd1⟩ := hd
        have HD := Lib.hid hD
        clear hD
        by_cases hlt : t < sz.length
        · skip
          have hti : (0 : Int) ≤ (t : Int) := by omega
          have htl : (t : Int) < (sz.length : Int) := by omega
          obtain ⟨y, hy⟩ : ∃ y, sz[t]? = some y := ⟨_, List.getElem?_eq_getElem hlt⟩
          have HY := Lib.hid hy
          have hy0 : 0 ≤ y := P.out y (List.mem_of_getElem? hy)
          have hsd := sum_drop hlt y hy
          rw [← HD.out] at hsd
          have hd2 := sum_drop_le P.out (t + 1)
          obtain ⟨D2, hD2⟩ : ∃ D2, D2 = (sz.drop (t + 1)).sum := ⟨_, rfl⟩
          rw [← hD2] at hsd hd2
          obtain ⟨hd20, hd21⟩ := hd2
          have HD2 := Lib.hid hD2
          have HS := Lib.hid hsd
          have hyd : y ≤ D := by omega
          clear hy hsd hD2
          have cw := R.out.mem.words
          rw [show (rmF room sz t).used = D from HD.out.symm] at cw
          have CW := Lib.hid cw
          clear cw
          go_wp2_with fail
          refine CW.out.mono ?_
          rintro e w3 ⟨rfl, b3⟩
          have R3 := Lib.hid (R.out.below b3)
          clear b3 CW
          have e1 : (D != room - (room - D)) = false := by simp; omega
          obtain ⟨gm, em, lm, hm⟩ := own_at R3.out.made (by omega)
          obtain ⟨u0, u1, u2⟩ := wcells_at (mads sz.length) t (by rw [mads_length]; omega)
          rw [mads_get _ _ hlt] at u0 u1 u2
          have c0 := hm _ _ u0
          have c1 := hm _ _ u1
          have c2 := hm _ _ u2
          clear hm u0 u1 u2
          subst em
          go_wp2_with fail
          refine (Mem.freeX R3.out.mem 0 (rmF room sz (t + 1)) (rm_f hlt y HY.out hy0) (rm_fe hlt y HY.out)).mono ?_
          rintro e w4 ⟨rfl, m4, k4⟩
          have R4 := Lib.hid (R3.out.kept hB m4 k4)
          clear m4 k4 c0 c1 c2
          obtain ⟨gs, es, ls, hs⟩ := own_at R4.out.size (by omega)
          have d0 := hs t (.int .i64 y) (by rw [nums, List.getElem?_map, HY.out]; rfl)
          clear hs
          subst es
          go_wp2
          go_roundw
          case rel => exact ⟨t + 1, by omega, by go_num, by rw [← HD2.out]; have := HS.out; first | (congr 1; omega) | go_num, R4.out⟩
          case measure => simp [intOf]; omega
        · obtain rfl : t = sz.length := by omega
          have hD0 : D = 0 := by rw [HD.out]; simp
          subst hD0
          have e1 : (room - 0 == room) = true := by simp
          go_wp2_with fail
          have c5 := R.out.mem.make room (by simp [rmF]; omega)
          rw [rm_last h0 h1] at c5
          refine c5.mono ?_
          rintro e w3 ⟨rfl, ⟨F3, m3, q3⟩, k3⟩
          have R3 := Lib.hid (R.out.make hB m3 q3 k3)
          clear c5 m3 q3 k3
          go_wp2
          go_ret
          exact ⟨rfl, (R3.out.below (by repeat (first | exact Below.refl _ _ | apply below_alloc | apply below_drew | (refine below_drewN ?_ _)))).old⟩

theorem memRoom_walk (W : World) (room : Int) (l : List Int) (A : Option Addr) (c : Nat) (hm : l.length ≤ maxLen) (hr : InI W A l) :
    Calls Try.prog 5 #[.int .i64 room, .slice A l.length c] W fun e W' => e = .returned (.bool true) ∧ Below W.heap.size W W' := by
  by_cases h : room < 0 ∨ 1000 < room ∨ 40 < l.length
  · exact memRoom_out room l A c W hm h
  · exact memRoom_in room l A c W hr (by omega) (by omega) (by omega)

end Go.Proofs.Ytkgiddpeaebdfaa
