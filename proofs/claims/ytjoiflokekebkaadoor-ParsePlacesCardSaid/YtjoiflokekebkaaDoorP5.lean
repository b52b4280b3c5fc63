/- Plain: items and statements stand where they tell. -/
import Derived.Test.YtjoiflokekebkaaDoorP2
import Derived.Test.YtjoiflokekebkaaDoorPe
set_option linter.all false
namespace Go.Proofs.YtjoiflokekebkaaDoor

/-! ### What is told of places -/
def beginsB (l : List Tk) (at_ : Int) (txt : ByteArray) : Bool := match l with
  | [] => false
  | t :: r => if t.at_ = at_ then (txt.toList == (⟨#[]⟩ : ByteArray).toList || t.s.toList == txt.toList) else beginsB r at_ txt
mutual
def risS (l : List Tk) : Stm → Int → Bool
  | .mk _ at_ _ _ _ _ _ th el arms, lo => beginsB l at_ ⟨#[]⟩ && decide (lo < at_) && risL l th at_ && risL l el at_ && risA l arms at_
def risL (l : List Tk) : List Stm → Int → Bool
  | [], _ => true
  | .mk k at_ n t p rv op th el arms :: r, lo => risS l (.mk k at_ n t p rv op th el arms) lo && risL l r at_
def risA (l : List Tk) : List Arm → Int → Bool
  | [], _ => true
  | .mk _ _ b :: r, at_ => risL l b at_ && risA l r at_
end
def structAt (l : List Tk) (x : Str) : Bool := beginsB l x.at_ (if x.drop then ⟨#[100, 114, 111, 112]⟩ else ⟨#[115, 116, 114, 117, 99, 116]⟩)
def enumAt (l : List Tk) (x : Enm) : Bool := beginsB l x.at_ ⟨#[101, 110, 117, 109]⟩
def fnAt (l : List Tk) (x : Fnc) : Bool := beginsB l x.at_ ⟨#[99, 111]⟩ && risL l x.b x.at_
def Good (l : List Tk) (x : Src) : Prop := (∀ y ∈ x.ss, structAt l y = true) ∧ (∀ y ∈ x.es, enumAt l y = true) ∧ (∀ y ∈ x.fs, fnAt l y = true)

/-! ### Tokens rise -/
def Inc (l : List Tk) : Prop := l.Pairwise (fun t u => t.at_ < u.at_)
theorem from_inc (s : ByteArray) : ∀ (k a : Nat), s.size - a ≤ k → a ≤ s.size → ∀ l, lexFrom s a = .ok l → (∀ t ∈ l, (a : Int) ≤ t.at_ ∧ t.at_ ≤ s.size) ∧ Inc l := by
  intro k
  induction k with
  | zero =>
    intro a hk ha l hl
    rw [lex_end (by omega)] at hl
    injection hl with hl
    subst hl
    exact ⟨fun t ht => by simp at ht; subst ht; simp; omega, List.pairwise_singleton _ _⟩
  | succ k ih =>
    intro a hk ha l hl
    obtain ⟨p, x, r, rfl, h2, h3, h4⟩ := from_head s _ a (Nat.le_refl _) ha l hl
    have hle := h2.le
    rcases h4 with ⟨rfl, rfl, rfl⟩ | ⟨kd, n, v, h4, h5, h6, h7, rfl, h9⟩
    · exact ⟨fun t ht => by simp at ht; subst ht; simp; omega, List.pairwise_singleton _ _⟩
    · obtain ⟨i1, i2⟩ := ih (p + n) (by omega) h6 r h9
      refine ⟨fun t ht => ?_, List.pairwise_cons.2 ⟨fun t ht => ?_, i2⟩⟩
      · rcases List.mem_cons.1 ht with rfl | ht
        · simp only; omega
        · have := i1 t ht; omega
      · have := i1 t ht
        simp only
        omega
theorem lexB_inc {s : ByteArray} {l : List Tk} (h : lexB s = .ok l) : (∀ t ∈ l, (0 : Int) ≤ t.at_ ∧ t.at_ ≤ s.size) ∧ Inc l := by
  by_cases h6 : 65536 < s.size
  · rw [lexB, if_pos h6] at h; cases h
  · rw [lexB, if_neg h6] at h
    exact from_inc s _ 0 (Nat.le_refl _) (Nat.zero_le _) l h
theorem Inc.suf {l ts : List Tk} (h : Inc l) (hs : ts <:+ l) : Inc ts := List.Pairwise.sublist hs.sublist h
theorem hd_lt {ts us : List Tk} (h : Inc ts) (hs : us <:+ ts) (hl : us.length < ts.length) : ∀ t ∈ us, (hd ts).at_ < t.at_ := by
  cases ts with
  | nil => simp at hl
  | cons x r =>
    have hr : us <:+ r := by
      rcases List.suffix_cons_iff.1 hs with rfl | h
      · simp at hl
      · exact h
    intro t ht
    exact (List.pairwise_cons.1 h).1 t (hr.subset ht)
theorem begins_at : ∀ {l : List Tk} (_ : Inc l) {t : Tk} (_ : t ∈ l) (txt : ByteArray), beginsB l t.at_ txt = (txt.toList == (⟨#[]⟩ : ByteArray).toList || t.s.toList == txt.toList)
  | x :: r, h, t, ht, txt => by
    rw [beginsB]
    rcases List.mem_cons.1 ht with rfl | ht
    · rw [if_pos rfl]
    · have := (List.pairwise_cons.1 h).1 t ht
      rw [if_neg (by omega)]
      exact begins_at (List.pairwise_cons.1 h).2 ht txt

/-! ### What is read stands so -/
section
variable {α β : Type}
/-- Tokens of l's end, all of them behind lo. -/
def Rest (l : List Tk) (lo : Int) (ts : List Tk) : Prop := ts <:+ l ∧ ∀ t ∈ ts, lo < t.at_
def Post (l : List Tk) (lo : Int) (p : Ps α) (R : α → Prop) : Prop := ∀ ts x ts', Rest l lo ts → p ts = .ok (x, ts') → R x
variable {l : List Tk} {lo : Int}
theorem Rest.suf {ts us : List Tk} (h : Rest l lo ts) (hs : us <:+ ts) : Rest l lo us := ⟨hs.trans h.1, fun t ht => h.2 t (hs.subset ht)⟩
theorem Post.any (p : Ps α) : Post l lo p (fun _ => True) := fun _ _ _ _ _ => trivial
theorem Post.ret {R : α → Prop} {x : α} (h : R x) : Post l lo (.ret x) R := fun ts y ts' _ e => by
  injection e with e; injection e with e _; exact e ▸ h
theorem Post.stp {R : α → Prop} (e : Int) : Post l lo (stp e) R := fun ts y ts' _ h => by cases h
theorem Post.bd {p : Ps α} {f : α → Ps β} {R : α → Prop} {S : β → Prop} (hl : Le p) (hp : Post l lo p R) (hf : ∀ x, R x → Post l lo (f x) S) : Post l lo (p.bd f) S := fun ts y ts' hr h => by
  obtain ⟨x, us, h1, h2⟩ := bd_split h
  exact hf x (hp _ _ _ hr h1) _ _ _ (hr.suf (hl _ _ _ h1)) h2
theorem Post.bd_ {p : Ps α} {f : α → Ps β} {S : β → Prop} (hl : Le p) (hf : ∀ x, Post l lo (f x) S) : Post l lo (p.bd f) S := Post.bd hl (Post.any p) (fun x _ => hf x)
theorem Post.optE {s : ByteArray} {p q : Ps α} {R : α → Prop} (hp : Post l lo p R) (hq : Post l lo q R) : Post l lo (optE s p q) R := fun ts y ts' hr h => by
  unfold Go.Proofs.YtjoiflokekebkaaDoor.optE at h
  split at h
  · exact hp _ _ _ (hr.suf (List.tail_suffix ts)) h
  · exact hq _ _ _ hr h
theorem Post.at_ {f : List Tk → Ps α} {R : α → Prop} (h : ∀ us, Post l lo (f us) R) : Post l lo (fun ts => f ts ts) R := fun ts y ts' hr e => h ts ts y ts' hr e
end
section
variable {l : List Tk} {blk : Ps (List Stm)} (hle : Le blk) (hb : ∀ lo, Post l lo blk (fun x => risL l x lo = true))
include hle hb
theorem Post.arm (lo : Int) : Post l lo (armP blk) (fun a => risA l [a] lo = true) := by
  have h : ∀ v b, Post l lo (blk.bd fun x => .ret (.mk v b x)) (fun a => risA l [a] lo = true) := fun v b => Post.bd hle (hb lo) fun x hx => Post.ret (by simp [risA, hx])
  exact Post.bd_ (Lt.name _).le fun v => Post.optE (Post.bd_ (Lt.name _).le fun b => Post.bd_ (Lt.must _).le fun _ => Post.bd_ (Lt.must _).le fun _ => h v b) (Post.bd_ (Lt.must _).le fun _ => h v _)
theorem Post.arms (lo : Int) : ∀ n, Post l lo (armsP blk n) (fun a => risA l a lo = true)
  | 0 => Post.stp _
  | n + 1 => Post.optE (Post.ret (by simp [risA])) (Post.bd (Lt.arm hle).le (Post.arm hle hb lo) fun a ha => Post.bd (Le.arms hle n) (Post.arms lo n) fun r hr => Post.ret (by
      cases a
      simp only [risA, Bool.and_true] at ha ⊢
      rw [ha, hr]; rfl))
/-- What a statement at a place is to be, behind its own beginning. -/
def Inner (l : List Tk) (at_ : Int) : Stm → Prop
  | .mk _ a _ _ _ _ _ th el arms => a = at_ ∧ risL l th at_ = true ∧ risL l el at_ = true ∧ risA l arms at_ = true
omit hle hb in
theorem Post.simple (at_ lo : Int) : Post l lo (simpleP at_) (Inner l at_) := by
  have h : ∀ k n t p rv op, Inner l at_ (.mk k at_ n t p rv op [] [] []) := fun _ _ _ _ _ _ => ⟨rfl, by simp [risL], by simp [risL], by simp [risA]⟩
  exact Post.optE (Post.bd_ (Lt.name _).le fun _ => Post.bd_ (Lt.must _).le fun _ => Post.bd_ (Lt.ty _).le fun _ => Post.bd_ (Lt.must _).le fun _ => Post.bd_ Lt.set.le fun _ => Post.ret (h _ _ _ _ _ _)) <|
    Post.optE (Post.bd_ Lt.oper.le fun _ => Post.ret (h _ _ _ _ _ _)) <| Post.optE (Post.bd_ Lt.oper.le fun _ => Post.ret (h _ _ _ _ _ _)) <| Post.optE (Post.bd_ Lt.oper.le fun _ => Post.ret (h _ _ _ _ _ _)) <|
    Post.optE (Post.bd_ Lt.bare.le fun _ => Post.ret (h _ _ _ _ _ _)) <| Post.bd_ Lt.place.le fun _ => Post.bd_ (Lt.must _).le fun _ => Post.bd_ Lt.set.le fun _ => Post.ret (h _ _ _ _ _ _)
omit hle hb in
theorem Post.optL {α : Type} {s : ByteArray} {p q : Ps α} {R : α → Prop} {ts : List Tk} {x : α} {ts' : List Tk} (hi : Inc l) (hs : ts <:+ l) (hp : Post l (hd ts).at_ p R)
    (hq : q ts = .ok (x, ts') → R x) (h : Go.Proofs.YtjoiflokekebkaaDoor.optE s p q ts = .ok (x, ts')) : R x := by
  unfold Go.Proofs.YtjoiflokekebkaaDoor.optE at h
  split at h
  · rename_i hw
    exact hp _ _ _ ⟨(List.tail_suffix ts).trans hs, hd_lt (hi.suf hs) (List.tail_suffix ts) (isW_pos hw)⟩ h
  · exact hq h
theorem stmt_inner (hi : Inc l) {ts ts' : List Tk} {x : Stm} (hs : ts <:+ l) (h : stmtP blk ts = .ok (x, ts')) : Inner l (hd ts).at_ x := by
  have hn : risL l [] (hd ts).at_ = true := by simp [risL]
  have hm : risA l [] (hd ts).at_ = true := by simp [risA]
  refine Post.optL hi hs ?_ (fun h => ?_) h
  · exact Post.bd_ Lt.oper.le fun o => Post.bd hle (hb _) fun a ha => Post.optE (Post.bd hle (hb _) fun b hb2 => Post.ret ⟨rfl, ha, hb2, hm⟩) (Post.ret ⟨rfl, ha, hn, hm⟩)
  refine Post.optL hi hs ?_ (fun h => ?_) h
  · exact Post.bd_ Lt.oper.le fun o => Post.bd hle (hb _) fun a ha => Post.ret ⟨rfl, ha, hn, hm⟩
  refine Post.optL hi hs ?_ (fun h => ?_) h
  · exact Post.bd_ Lt.bare.le fun o => Post.bd_ (Lt.must _).le fun _ => Post.at_ (f := fun us => (armsP blk (us.length + 1)).bd _) fun us => Post.bd (Le.arms hle _) (Post.arms hle hb _ _) fun a ha => Post.ret ⟨rfl, hn, hn, ha⟩
  have hl : Rest l ((hd ts).at_ - 1) ts ∨ ts = [] := by
    by_cases h0 : ts = []
    · exact .inr h0
    · refine .inl ⟨hs, fun t ht => ?_⟩
      cases ts with
      | nil => exact absurd rfl h0
      | cons y r =>
        rcases List.mem_cons.1 ht with rfl | ht
        · simp [hd]; omega
        · have := (List.pairwise_cons.1 (hi.suf hs)).1 t ht
          simp [hd]; omega
  have hp : Post l ((hd ts).at_ - 1) ((simpleP (hd ts).at_).bd fun s => (must (⟨#[59]⟩ : ByteArray)).bd fun _ => .ret s) (Inner l (hd ts).at_) :=
    Post.bd (Lt.simple _).le (Post.simple _ _) fun s hs => Post.bd_ (Lt.must _).le fun _ => Post.ret hs
  rcases hl with hl | rfl
  · exact hp _ _ _ hl h
  · have := (Lt.bd (Lt.simple _) (fun _ => Le.bd (Lt.must _).le fun _ => Le.ret _) : Lt ((simpleP (hd ([] : List Tk)).at_).bd fun s => (must (⟨#[59]⟩ : ByteArray)).bd fun _ => .ret s)) _ _ _ h
    simp at this
theorem Post.stmts (hi : Inc l) : ∀ n lo, Post l lo (stmtsP blk n) (fun x => risL l x lo = true)
  | 0, _ => Post.stp _
  | n + 1, lo => Post.optE (Post.ret (by simp [risL])) fun ts x ts' hr h => by
    obtain ⟨s, us, h1, h2⟩ := bd_split h
    obtain ⟨r, vs, h3, h4⟩ := bd_split h2
    injection h4 with h4
    injection h4 with h4 _
    subst h4
    have hlt := Lt.stmt hle _ _ _ h1
    have hin := stmt_inner hle hb hi hr.1 h1
    have hrest : Rest l (hd ts).at_ us := ⟨hlt.1.trans hr.1, hd_lt (hi.suf hr.1) hlt.1 hlt.2⟩
    have h5 := Post.stmts hi n (hd ts).at_ _ _ _ hrest h3
    have hmem : hd ts ∈ ts := by cases ts with | nil => simp at hlt | cons y r => simp [hd]
    have h6 := begins_at hi (hr.1.subset hmem) ⟨#[]⟩
    have h7 := hr.2 _ hmem
    obtain ⟨k, a, n, t, p, rv, op, th, el, arms⟩ := s
    obtain ⟨rfl, h8, h9, h10⟩ := hin
    simp [risL, risS, h5, h6, h7, h8, h9, h10]
end
theorem Post.block {l : List Tk} (hi : Inc l) : ∀ k lo, Post l lo (blockP k) (fun x => risL l x lo = true)
  | 0, lo => fun ts x ts' hr h => by simp only [blockP] at h; split at h <;> cases h
  | k + 1, lo => Post.bd_ (Lt.must _).le fun _ => Post.at_ (f := fun us => stmtsP (blockP k) (us.length + 1)) fun us => Post.stmts (Le.block k) (Post.block hi k) hi _ lo
section
variable {l : List Tk} (hi : Inc l)
include hi
theorem at_word {w : ByteArray} {ts : List Tk} (hs : ts <:+ l) (hw : isW w ts = true) : beginsB l (hd ts).at_ w = true := by
  have hmem : hd ts ∈ ts := by
    have := isW_pos hw
    cases ts with
    | nil => simp at this
    | cons y r => simp [hd]
  rw [begins_at hi (hs.subset hmem)]
  simp only [isW, Bool.and_eq_true] at hw
  rw [hw.2, Bool.or_true]
omit hi in
theorem must_word {w : ByteArray} {ts ts' : List Tk} {u : Unit} (h : must w ts = .ok (u, ts')) : isW w ts = true := by
  unfold must at h
  split at h
  · assumption
  · cases h
omit hi in
theorem struct_at {d : Bool} {a : Int} {ts ts' : List Tk} {x : Str} (h : structP d a ts = .ok (x, ts')) : x.drop = d ∧ x.at_ = a ∧ isW (⟨#[115, 116, 114, 117, 99, 116]⟩ : ByteArray) ts = true := by
  obtain ⟨_, us, h1, h2⟩ := bd_split h
  obtain ⟨_, us, _, h2⟩ := bd_split h2
  obtain ⟨_, us, _, h2⟩ := bd_split h2
  obtain ⟨_, us, _, h2⟩ := bd_split h2
  injection h2 with h2
  injection h2 with h2 _
  subst h2
  exact ⟨rfl, rfl, must_word h1⟩
omit hi in
theorem enum_at {a : Int} {ts ts' : List Tk} {x : Enm} (h : enumP a ts = .ok (x, ts')) : x.at_ = a := by
  obtain ⟨_, us, _, h2⟩ := bd_split h
  obtain ⟨_, us, _, h2⟩ := bd_split h2
  obtain ⟨_, us, _, h2⟩ := bd_split h2
  injection h2 with h2
  injection h2 with h2 _
  subst h2
  rfl
theorem fn_at {a : Int} {ts ts' : List Tk} {x : Fnc} (hs : ts <:+ l) (ha : a = (hd ts).at_) (h : fnP a ts = .ok (x, ts')) : fnAt l x = true := by
  subst ha
  obtain ⟨_, us, h1, h2⟩ := bd_split h
  have hw := must_word h1
  have hlt := Lt.must _ _ _ _ h1
  have hr : Rest l (hd ts).at_ us := ⟨hlt.1.trans hs, hd_lt (hi.suf hs) hlt.1 hlt.2⟩
  have hp : Post l (hd ts).at_ ((name false).bd fun n => (must (⟨#[40]⟩ : ByteArray)).bd fun _ => (listP (⟨#[41]⟩ : ByteArray) fieldP).bd fun l => (blockP 60).bd fun b => .ret ⟨n, l, b, (hd ts).at_⟩) (fun x : Fnc => x.at_ = (hd ts).at_ ∧ risL l x.b (hd ts).at_ = true) :=
    Post.bd_ (Lt.name _).le fun _ => Post.bd_ (Lt.must _).le fun _ => Post.bd_ (Lt.list Lt.field.le).le fun _ => Post.bd (Le.block _) (Post.block hi _ _) fun b hb => Post.ret ⟨rfl, hb⟩
  obtain ⟨h3, h4⟩ := hp _ _ _ hr h2
  rw [fnAt, h3, h4, at_word hi hs hw]
  rfl
theorem item_good {s : Src} (hg : Good l s) {ts ts' : List Tk} {x : Src} (hs : ts <:+ l) (h : itemP s ts = .ok (x, ts')) : Good l x := by
  unfold itemP itemQ at h
  have happ : ∀ {γ : Type} {P : γ → Prop} {r : List γ} {y : γ}, (∀ z ∈ r, P z) → P y → ∀ z ∈ r ++ [y], P z := fun h1 h2 z hz => by
    rcases List.mem_append.1 hz with hz | hz
    · exact h1 z hz
    · simp at hz; subst hz; exact h2
  unfold optE at h
  split at h
  · rename_i hw
    obtain ⟨y, us, h1, h2⟩ := bd_split h
    injection h2 with h2
    injection h2 with h2 _
    subst h2
    obtain ⟨h3, h4, h5⟩ := struct_at h1
    exact ⟨happ hg.1 (by rw [structAt, h3, h4]; exact at_word hi hs hw), hg.2⟩
  · dsimp only at h
    split at h
    · rename_i hw
      obtain ⟨y, us, h1, h2⟩ := bd_split h
      injection h2 with h2
      injection h2 with h2 _
      subst h2
      obtain ⟨h3, h4, h5⟩ := struct_at h1
      exact ⟨happ hg.1 (by rw [structAt, h3, h4]; exact at_word hi hs hw), hg.2⟩
    · split at h
      · rename_i hw
        obtain ⟨y, us, h1, h2⟩ := bd_split h
        injection h2 with h2
        injection h2 with h2 _
        subst h2
        have h3 := enum_at h1
        exact ⟨hg.1, happ hg.2.1 (by rw [enumAt, h3]; exact at_word hi hs hw), hg.2.2⟩
      · obtain ⟨y, us, h1, h2⟩ := bd_split h
        injection h2 with h2
        injection h2 with h2 _
        subst h2
        exact ⟨hg.1, hg.2.1, happ hg.2.2 (fn_at hi hs rfl h1)⟩
theorem items_good : ∀ (n : Nat) (s : Src) (ts : List Tk) (v : Src) (r : List Tk), Good l s → ts <:+ l → itemsP n s ts = .ok (v, r) → Good l v
  | 0, _, _, _, _, _, _, h => by cases h
  | n + 1, s, ts, v, r, hg, hs, h => by
    simp only [itemsP] at h
    split at h
    · injection h with h
      injection h with h _
      exact h ▸ hg
    · obtain ⟨x, us, h1, h2⟩ := bd_split h
      exact items_good n x us v r (item_good hi hg hs h1) ((Lt.item _ _ _ _ h1).1.trans hs) h2
end
/-- What is read of a text stands where it tells. -/
theorem places_good {s : ByteArray} {l : List Tk} {x : Src} (h : lexB s = .ok l) (hx : parseB s = .ok x) : Good l x := by
  rw [parseB, h] at hx
  simp only at hx
  cases hi : itemsP (l.length + 1) .zero l with
  | error e => rw [hi] at hx; cases hx
  | ok r =>
    rw [hi] at hx
    simp only at hx
    injection hx with hx
    subst hx
    obtain ⟨v, us⟩ := r
    exact items_good (lexB_inc h).2 _ _ _ _ _ ⟨fun y hy => (by cases hy), fun y hy => (by cases hy), fun y hy => (by cases hy)⟩ (List.suffix_refl _) hi
end Go.Proofs.YtjoiflokekebkaaDoor
