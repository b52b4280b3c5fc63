/- Texts of this claim in one file: P6, P7, P8. -/
import Derived.Test.YtjoiflokekebkaaGreatDoorM2
import Derived.Test.YtjoiflokekebkaaGreatDoorM8
set_option linter.all false
section
/- Plain: where tokens stand does not matter to what is read. -/
namespace Go.Proofs.YtjoiflokekebkaaGreatDoor

/-! ### Trees without places -/
mutual
def Stm.st : Stm → Stm
  | .mk k _ n t p rv op th el arms => .mk k 0 n t p rv op (stL th) (stL el) (stA arms)
def stL : List Stm → List Stm
  | [] => []
  | s :: l => s.st :: stL l
def Arm.st : Arm → Arm
  | .mk v b l => .mk v b (stL l)
def stA : List Arm → List Arm
  | [] => []
  | a :: l => a.st :: stA l
end
def Str.st (x : Str) : Str := { x with at_ := 0 }
def Enm.st (x : Enm) : Enm := { x with at_ := 0 }
def Fnc.st (x : Fnc) : Fnc := { x with b := stL x.b, at_ := 0 }
def Src.st (s : Src) : Src := ⟨s.ss.map Str.st, s.es.map Enm.st, s.fs.map Fnc.st⟩

/-- Two rows of tokens that are the same but for where they stand. -/
structure TR where
  R : List Tk → List Tk → Prop
  E : Int → Int → Prop
  hds : ∀ {ts ts' : List Tk}, R ts ts' → (hd ts).k = (hd ts').k ∧ (hd ts).s = (hd ts').s ∧ (hd ts).n = (hd ts').n ∧ E (hd ts).at_ (hd ts').at_
  tls : ∀ {ts ts' : List Tk}, R ts ts' → (hd ts).k ≠ 0 → R ts.tail ts'.tail
  len : ∀ {ts ts' : List Tk}, R ts ts' → ts.length = ts'.length
section
variable {α β γ δ : Type} (T : TR)
def RP (f : α → γ) (p p' : Ps α) : Prop := ∀ ts ts', T.R ts ts' →
  (∃ x us x' us', p ts = .ok (x, us) ∧ p' ts' = .ok (x', us') ∧ f x = f x' ∧ T.R us us') ∨ (∃ e a a', p ts = .error (e, a) ∧ p' ts' = .error (e, a') ∧ T.E a a')
variable {T} {f : α → γ} {g : β → δ}
theorem RP.ret {x x' : α} (h : f x = f x') : RP T f (.ret x) (.ret x') := fun ts ts' hr => .inl ⟨x, ts, x', ts', rfl, rfl, h, hr⟩
theorem RP.stp (e : Int) : RP T f (stp e) (stp e) := fun ts ts' hr => .inr ⟨e, _, _, rfl, rfl, (T.hds hr).2.2.2⟩
theorem RP.bd {p p' : Ps α} {h h' : α → Ps β} (hp : RP T f p p') (hh : ∀ x x', f x = f x' → RP T g (h x) (h' x')) : RP T g (p.bd h) (p'.bd h') := fun ts ts' hr => by
  rcases hp ts ts' hr with ⟨x, us, x', us', h1, h2, h3, h4⟩ | ⟨e, a, a', h1, h2, h3⟩
  · rw [Ps.bd_ok h1, Ps.bd_ok h2]
    exact hh x x' h3 us us' h4
  · rw [Ps.bd_err h1, Ps.bd_err h2]
    exact .inr ⟨e, a, a', rfl, rfl, h3⟩
theorem RP.bd1 {p : Ps α} {h h' : α → Ps β} (hp : RP T (fun x => x) p p) (hh : ∀ x, RP T g (h x) (h' x)) : RP T g (p.bd h) (p.bd h') := RP.bd hp (fun x x' e => by cases e; exact hh x)
theorem isW_rel {s : ByteArray} {ts ts' : List Tk} (hr : T.R ts ts') : isW s ts = isW s ts' := by
  obtain ⟨h1, h2, _⟩ := T.hds hr
  rw [isW, isW, h1, h2]
theorem tail_rel {s : ByteArray} {ts ts' : List Tk} (hr : T.R ts ts') (hw : isW s ts = true) : T.R ts.tail ts'.tail := by
  refine T.tls hr (fun h0 => ?_)
  simp [isW, h0] at hw
theorem named_tail {b : Bool} {ts ts' : List Tk} (hr : T.R ts ts') (hw : namedB b (hd ts) = true) : T.R ts.tail ts'.tail := by
  refine T.tls hr (fun h0 => ?_)
  simp [namedB, h0] at hw
theorem named_rel {b : Bool} {ts ts' : List Tk} (hr : T.R ts ts') : namedB b (hd ts) = namedB b (hd ts') := by
  obtain ⟨h1, h2, _⟩ := T.hds hr
  rw [namedB, namedB, h1, h2]
theorem RP.optE {s : ByteArray} {p p' q q' : Ps α} (hp : RP T f p p') (hq : RP T f q q') : RP T f (optE s p q) (optE s p' q') := fun ts ts' hr => by
  unfold Go.Proofs.YtjoiflokekebkaaGreatDoor.optE
  rw [← isW_rel hr]
  by_cases hw : isW s ts = true
  · rw [if_pos hw, if_pos hw]; exact hp _ _ (tail_rel hr hw)
  · rw [if_neg hw, if_neg hw]; exact hq _ _ hr
theorem RP.must (s : ByteArray) : RP T (fun x => x) (must s) (must s) := fun ts ts' hr => by
  unfold Go.Proofs.YtjoiflokekebkaaGreatDoor.must
  rw [← isW_rel hr]
  by_cases hw : isW s ts = true
  · rw [if_pos hw, if_pos hw]; exact .inl ⟨_, _, _, _, rfl, rfl, rfl, tail_rel hr hw⟩
  · rw [if_neg hw, if_neg hw]; exact .inr ⟨_, _, _, rfl, rfl, (T.hds hr).2.2.2⟩
theorem RP.name (b : Bool) : RP T (fun x => x) (name b) (name b) := fun ts ts' hr => by
  unfold Go.Proofs.YtjoiflokekebkaaGreatDoor.name
  rw [← named_rel hr]
  by_cases hw : namedB b (hd ts) = true
  · rw [if_pos hw, if_pos hw]; exact .inl ⟨_, _, _, _, rfl, rfl, (T.hds hr).2.1, named_tail hr hw⟩
  · rw [if_neg hw, if_neg hw]; exact .inr ⟨_, _, _, rfl, rfl, (T.hds hr).2.2.2⟩
theorem RP.at_ {p p' : List Tk → Ps α} (h : ∀ us us', us.length = us'.length → RP T f (p us) (p' us')) : RP T f (fun ts => p ts ts) (fun ts => p' ts ts) := fun ts ts' hr => h ts ts' (T.len hr) ts ts' hr
theorem RP.more {fin : ByteArray} {read : Ps α} (hr : RP T (fun x => x) read read) : ∀ n, RP T (fun x => x) (moreP fin read n) (moreP fin read n)
  | 0 => RP.stp _
  | n + 1 => RP.optE (RP.bd1 hr fun _ => RP.bd1 (RP.more hr n) fun _ => RP.ret rfl) (RP.bd1 (RP.must _) fun _ => RP.ret rfl)
theorem RP.list {fin : ByteArray} {read : Ps α} (hr : RP T (fun x => x) read read) : RP T (fun x => x) (listP fin read) (listP fin read) :=
  RP.optE (RP.ret rfl) (RP.bd1 hr fun _ => RP.at_ (p := fun us => (moreP fin read (us.length + 1)).bd _) (p' := fun us => (moreP fin read (us.length + 1)).bd _) fun us us' e => by rw [e]; exact RP.bd1 (RP.more hr _) fun _ => RP.ret rfl)
theorem RP.numE {p p' : Int → Ps α} {q q' : Ps α} (hp : ∀ n, RP T f (p n) (p' n)) (hq : RP T f q q') : RP T f (numE p q) (numE p' q') := fun ts ts' hr => by
  unfold Go.Proofs.YtjoiflokekebkaaGreatDoor.numE
  obtain ⟨h1, _, h3, _⟩ := T.hds hr
  rw [← h1, ← h3]
  by_cases hw : (hd ts).k = 2
  · rw [if_pos hw, if_pos hw]; exact hp _ _ _ (T.tls hr (by omega))
  · rw [if_neg hw, if_neg hw]; exact hq _ _ hr
theorem RP.greatE {p p' q q' : Ps α} (hp : RP T f p p') (hq : RP T f q q') : RP T f (greatE p q) (greatE p' q') := fun ts ts' hr => by
  unfold Go.Proofs.YtjoiflokekebkaaGreatDoor.greatE
  rw [← named_rel hr]
  by_cases hw : namedB true (hd ts) = true
  · rw [if_pos hw, if_pos hw]; exact hp _ _ hr
  · rw [if_neg hw, if_neg hw]; exact hq _ _ hr
end
section
variable {T : TR}
theorem RP.ty : ∀ k, RP T (fun x => x) (tyP k) (tyP k)
  | 0 => RP.stp _
  | k + 1 => RP.optE (RP.ret rfl) (RP.optE (RP.bd1 (RP.name _) fun _ => RP.ret rfl) (RP.optE (RP.bd1 (RP.ty k) fun _ => RP.ret rfl)
      (RP.optE (RP.optE (RP.bd1 (RP.ty k) fun _ => RP.ret rfl) (RP.bd1 (RP.ty k) fun _ => RP.ret rfl)) (RP.bd1 (RP.name _) fun _ => RP.ret rfl))))
theorem RP.field : RP T (fun x => x) fieldP fieldP := RP.bd1 (RP.name _) fun _ => RP.bd1 (RP.must _) fun _ => RP.bd1 (RP.ty _) fun _ => RP.ret rfl
theorem RP.variant : RP T (fun x => x) variantP variantP := RP.bd1 (RP.name _) fun _ => RP.optE (RP.bd1 (RP.ty _) fun _ => RP.bd1 (RP.must _) fun _ => RP.ret rfl) (RP.ret rfl)
theorem RP.steps : ∀ n, RP T (fun x => x) (stepsP n) (stepsP n)
  | 0 => RP.stp _
  | n + 1 => RP.optE (RP.optE (RP.bd1 (RP.steps n) fun _ => RP.ret rfl) (RP.bd1 (RP.name _) fun _ => RP.bd1 (RP.steps n) fun _ => RP.ret rfl)) (RP.ret rfl)
theorem RP.place : RP T (fun x => x) placeP placeP := RP.bd1 (RP.name _) fun _ => RP.at_ (p := fun us => (stepsP (us.length + 1)).bd _) (p' := fun us => (stepsP (us.length + 1)).bd _) fun us us' e => by rw [e]; exact RP.bd1 (RP.steps _) fun _ => RP.ret rfl
theorem RP.bare : RP T (fun x => x) bareP bareP := RP.bd1 (RP.name _) fun _ => RP.ret rfl
theorem RP.oper : RP T (fun x => x) operP operP := RP.optE (RP.numE (fun _ => RP.ret rfl) (RP.stp _)) (RP.numE (fun _ => RP.ret rfl) (RP.bd1 RP.place fun _ => RP.ret rfl))
theorem RP.args : RP T (fun x => x) argsP argsP := RP.bd1 (RP.must _) fun _ => RP.list RP.oper
theorem RP.made : RP T (fun x => x) madeP madeP := RP.bd1 (RP.name _) fun _ => RP.optE (RP.bd1 (RP.name _) fun _ => RP.optE (RP.bd1 RP.oper fun _ => RP.bd1 (RP.must _) fun _ => RP.ret rfl) (RP.ret rfl)) (RP.bd1 RP.args fun _ => RP.ret rfl)
theorem RP.sign (a : Opr) (k : Int) : RP T (fun x => x) (signE a k) (signE a k) := RP.bd1 RP.oper fun _ => RP.ret rfl
theorem RP.set : RP T (fun x => x) setP setP :=
  RP.optE (RP.optE (RP.bd1 RP.place fun _ => RP.ret rfl) (RP.bd1 RP.place fun _ => RP.ret rfl)) <| RP.optE (RP.bd1 RP.oper fun _ => RP.ret rfl) <| RP.optE (RP.bd1 RP.oper fun _ => RP.ret rfl) <|
  RP.optE (RP.bd1 RP.bare fun _ => RP.ret rfl) <| RP.optE (RP.bd1 RP.bare fun _ => RP.ret rfl) <| RP.optE (RP.bd1 RP.bare fun _ => RP.ret rfl) <|
  RP.optE (RP.bd1 (RP.name _) fun _ => RP.bd1 RP.args fun _ => RP.ret rfl) <| RP.greatE RP.made <|
  RP.bd1 RP.oper fun _ => RP.optE (RP.sign _ _) <| RP.optE (RP.sign _ _) <| RP.optE (RP.sign _ _) <| RP.optE (RP.sign _ _) <| RP.optE (RP.sign _ _) (RP.ret rfl)
section
variable {blk blk' : Ps (List Stm)} (hb : RP T stL blk blk')
include hb
theorem RP.arm : RP T Arm.st (armP blk) (armP blk') := by
  have h : ∀ v b, RP T Arm.st (blk.bd fun l => .ret (.mk v b l)) (blk'.bd fun l => .ret (.mk v b l)) := fun v b => RP.bd hb fun x x' e => RP.ret (by rw [Arm.st, Arm.st, e])
  exact RP.bd1 (RP.name _) fun v => RP.optE (RP.bd1 (RP.name _) fun b => RP.bd1 (RP.must _) fun _ => RP.bd1 (RP.must _) fun _ => h v b) (RP.bd1 (RP.must _) fun _ => h v _)
theorem RP.arms : ∀ n, RP T stA (armsP blk n) (armsP blk' n)
  | 0 => RP.stp _
  | n + 1 => RP.optE (RP.ret rfl) (RP.bd (RP.arm hb) fun a a' e => RP.bd (RP.arms n) fun l l' e' => RP.ret (by rw [stA, stA, e, e']))
omit hb in
theorem RP.simple (a a' : Int) : RP T Stm.st (simpleP a) (simpleP a') := by
  have h : ∀ k n t p rv op, (Stm.mk k a n t p rv op [] [] []).st = (Stm.mk k a' n t p rv op [] [] []).st := fun _ _ _ _ _ _ => by simp only [Stm.st]
  exact RP.optE (RP.bd1 (RP.name _) fun _ => RP.bd1 (RP.must _) fun _ => RP.bd1 (RP.ty _) fun _ => RP.bd1 (RP.must _) fun _ => RP.bd1 RP.set fun _ => RP.ret (h _ _ _ _ _ _)) <|
    RP.optE (RP.bd1 RP.oper fun _ => RP.ret (h _ _ _ _ _ _)) <| RP.optE (RP.bd1 RP.oper fun _ => RP.ret (h _ _ _ _ _ _)) <| RP.optE (RP.bd1 RP.oper fun _ => RP.ret (h _ _ _ _ _ _)) <|
    RP.optE (RP.bd1 RP.bare fun _ => RP.ret (h _ _ _ _ _ _)) <| RP.bd1 RP.place fun _ => RP.bd1 (RP.must _) fun _ => RP.bd1 RP.set fun _ => RP.ret (h _ _ _ _ _ _)
theorem RP.stmtQ (a a' : Int) : RP T Stm.st (stmtQ blk a) (stmtQ blk' a') := by
  refine RP.optE (RP.bd1 RP.oper fun o => RP.bd hb fun l l' e => RP.optE (RP.bd hb fun m m' e' => RP.ret ?_) (RP.ret ?_)) <|
    RP.optE (RP.bd1 RP.oper fun o => RP.bd hb fun l l' e => RP.ret ?_) <|
    RP.optE (RP.bd1 RP.bare fun p => RP.bd1 (RP.must _) fun _ => RP.at_ (p := fun us => (armsP blk (us.length + 1)).bd _) (p' := fun us => (armsP blk' (us.length + 1)).bd _) fun us us' e => by rw [e]; exact RP.bd (RP.arms hb _) fun l l' e => RP.ret (by simp only [Stm.st, e])) <|
    RP.bd (RP.simple _ _) fun s s' e => RP.bd1 (RP.must _) fun _ => RP.ret e
  · simp only [Stm.st, e, e']
  · simp only [Stm.st, e]
  · simp only [Stm.st, e]
theorem RP.stmt : RP T Stm.st (stmtP blk) (stmtP blk') := fun ts ts' hr => RP.stmtQ hb _ _ ts ts' hr
theorem RP.stmts : ∀ n, RP T stL (stmtsP blk n) (stmtsP blk' n)
  | 0 => RP.stp _
  | n + 1 => RP.optE (RP.ret rfl) (RP.bd (RP.stmt hb) fun a a' e => RP.bd (RP.stmts n) fun l l' e' => RP.ret (by rw [stL, stL, e, e']))
end
theorem RP.block : ∀ k, RP T stL (blockP k) (blockP k)
  | 0 => fun ts ts' hr => by
    simp only [blockP]
    rw [← isW_rel hr]
    have h := (T.hds hr).2.2.2
    split
    · exact .inr ⟨_, _, _, rfl, rfl, h⟩
    · exact .inr ⟨_, _, _, rfl, rfl, h⟩
  | k + 1 => RP.bd1 (RP.must _) fun _ => RP.at_ (p := fun us => stmtsP (blockP k) (us.length + 1)) (p' := fun us => stmtsP (blockP k) (us.length + 1)) fun us us' e => by rw [e]; exact RP.stmts (RP.block k) _
theorem RP.struct (d : Bool) (a a' : Int) : RP T Str.st (structP d a) (structP d a') := RP.bd1 (RP.must _) fun _ => RP.bd1 (RP.name _) fun _ => RP.bd1 (RP.must _) fun _ => RP.bd1 (RP.list RP.field) fun _ => RP.ret rfl
theorem RP.enum (a a' : Int) : RP T Enm.st (enumP a) (enumP a') := RP.bd1 (RP.name _) fun _ => RP.bd1 (RP.must _) fun _ => RP.bd1 (RP.list RP.variant) fun _ => RP.ret rfl
theorem RP.fn (a a' : Int) : RP T Fnc.st (fnP a) (fnP a') := RP.bd1 (RP.must _) fun _ => RP.bd1 (RP.name _) fun _ => RP.bd1 (RP.must _) fun _ => RP.bd1 (RP.list RP.field) fun _ => RP.bd (RP.block _) fun l l' e => RP.ret (by simp only [Fnc.st, e])
theorem RP.itemQ {s s' : Src} (hs : s.st = s'.st) (a a' : Int) : RP T Src.st (itemQ s a) (itemQ s' a') := by
  obtain ⟨s1, s2, s3⟩ := s
  obtain ⟨t1, t2, t3⟩ := s'
  simp only [Src.st, Src.mk.injEq] at hs
  obtain ⟨h1, h2, h3⟩ := hs
  have h4 : ∀ d, RP T Src.st ((structP d a).bd fun x => .ret { (⟨s1, s2, s3⟩ : Src) with ss := s1 ++ [x] }) ((structP d a').bd fun x => .ret { (⟨t1, t2, t3⟩ : Src) with ss := t1 ++ [x] }) := fun d =>
    RP.bd (RP.struct d a a') fun x x' e => RP.ret (by simp only [Src.st, List.map_append, List.map_cons, List.map_nil, h1, h2, h3, e])
  refine RP.optE (h4 true) fun ts ts' hr => ?_
  simp only
  rw [← isW_rel hr]
  by_cases hw : isW (⟨#[115, 116, 114, 117, 99, 116]⟩ : ByteArray) ts = true
  · rw [if_pos hw, if_pos hw]
    exact h4 false ts ts' hr
  · rw [if_neg hw, if_neg hw]
    exact RP.optE (RP.bd (RP.enum a a') fun x x' e => RP.ret (by simp only [Src.st, List.map_append, List.map_cons, List.map_nil, h1, h2, h3, e])) (RP.bd (RP.fn a a') fun x x' e => RP.ret (by simp only [Src.st, List.map_append, List.map_cons, List.map_nil, h1, h2, h3, e])) ts ts' hr
theorem RP.items : ∀ (n : Nat) {s s' : Src} (_ : s.st = s'.st), RP T Src.st (itemsP n s) (itemsP n s')
  | 0, _, _, _ => RP.stp _
  | n + 1, s, s', hs => fun ts ts' hr => by
    simp only [itemsP]
    rw [← (T.hds hr).1]
    by_cases hk : (hd ts).k = 0
    · rw [if_pos hk, if_pos hk]
      exact .inl ⟨s, ts, s', ts', rfl, rfl, hs, hr⟩
    · rw [if_neg hk, if_neg hk]
      exact RP.bd (p := itemP s) (p' := itemP s') (fun us us' hr => RP.itemQ hs _ _ us us' hr) (fun x x' e => RP.items n e) ts ts' hr
end
mutual
def stSz : Stm → Nat
  | .mk _ _ _ _ _ _ _ th el arms => stSzL th + stSzL el + arSzL arms + 1
def stSzL : List Stm → Nat
  | [] => 0
  | s :: r => stSz s + stSzL r
def arSzL : List Arm → Nat
  | [] => 0
  | .mk _ _ b :: r => stSzL b + 1 + arSzL r
end
theorem stSz_mem {l : List Stm} {i : Nat} {s : Stm} (h : l[i]? = some s) : stSz s ≤ stSzL l := by
  induction l generalizing i with
  | nil => simp at h
  | cons a r ih =>
    rw [stSzL]
    cases i with
    | zero => simp at h; subst h; omega
    | succ i => have := ih (by simpa using h); omega
theorem arSz_mem {l : List Arm} {i : Nat} {v b : ByteArray} {body : List Stm} (h : l[i]? = some (.mk v b body)) : stSzL body < arSzL l := by
  induction l generalizing i with
  | nil => simp at h
  | cons a r ih =>
    cases a
    rw [arSzL]
    cases i with
    | zero => simp at h; obtain ⟨_, _, rfl⟩ := h; omega
    | succ i => have := ih (by simpa using h); omega
theorem stL_get : ∀ {l l' : List Stm}, stL l = stL l' → l.length = l'.length ∧ ∀ (i : Nat) (x y : Stm), l[i]? = some x → l'[i]? = some y → x.st = y.st
  | [], [], _ => ⟨rfl, fun i x y h => by simp at h⟩
  | a :: r, b :: s, h => by
    rw [stL, stL] at h
    injection h with h1 h2
    obtain ⟨h3, h4⟩ := stL_get h2
    refine ⟨by simp [h3], fun i x y hx hy => ?_⟩
    cases i with
    | zero => simp at hx hy; rw [← hx, ← hy]; exact h1
    | succ i => exact h4 i x y (by simpa using hx) (by simpa using hy)
  | [], _ :: _, h => by rw [stL, stL] at h; cases h
  | _ :: _, [], h => by rw [stL, stL] at h; cases h
theorem stA_get : ∀ {l l' : List Arm}, stA l = stA l' → l.length = l'.length ∧ ∀ (i : Nat) (x y : Arm), l[i]? = some x → l'[i]? = some y → x.st = y.st
  | [], [], _ => ⟨rfl, fun i x y h => by simp at h⟩
  | a :: r, b :: s, h => by
    rw [stA, stA] at h
    injection h with h1 h2
    obtain ⟨h3, h4⟩ := stA_get h2
    refine ⟨by simp [h3], fun i x y hx hy => ?_⟩
    cases i with
    | zero => simp at hx hy; rw [← hx, ← hy]; exact h1
    | succ i => exact h4 i x y (by simpa using hx) (by simpa using hy)
  | [], _ :: _, h => by rw [stA, stA] at h; cases h
  | _ :: _, [], h => by rw [stA, stA] at h; cases h
end Go.Proofs.YtjoiflokekebkaaGreatDoor
end

section
/- Plain: items that stand ahead of others are read as they are alone. -/
namespace Go.Proofs.YtjoiflokekebkaaGreatDoor

/-! ### More fuel -/
theorem more_up {α : Type} {fin : ByteArray} {read : Ps α} : ∀ (n m : Nat) (ts : List Tk) (r : List α × List Tk), moreP fin read n ts = .ok r → n ≤ m → moreP fin read m ts = .ok r
  | 0, _, _, _, h, _ => by cases h
  | n + 1, 0, _, _, _, h => by omega
  | n + 1, m + 1, ts, r, h, hm => by
    simp only [moreP, optE] at h ⊢
    split at h
    · rename_i hw
      rw [if_pos hw]
      obtain ⟨x, us, h1, h2⟩ := bd_split (y := r.1) (ts' := r.2) h
      obtain ⟨y, vs, h3, h4⟩ := bd_split h2
      rw [Ps.bd_ok h1, Ps.bd_ok (more_up n m us _ h3 (by omega))]
      exact h4
    · rename_i hw
      rw [if_neg hw]
      exact h
theorem steps_up : ∀ (n m : Nat) (ts : List Tk) (r : List ByteArray × List Tk), stepsP n ts = .ok r → n ≤ m → stepsP m ts = .ok r
  | 0, _, _, _, h, _ => by cases h
  | n + 1, 0, _, _, _, h => by omega
  | n + 1, m + 1, ts, r, h, hm => by
    simp only [stepsP, optE] at h ⊢
    split at h
    · rename_i hw
      rw [if_pos hw]
      split at h
      · rename_i hw2
        rw [if_pos hw2]
        obtain ⟨x, us, h1, h2⟩ := bd_split (y := r.1) (ts' := r.2) h
        rw [Ps.bd_ok (steps_up n m _ _ h1 (by omega))]
        exact h2
      · rename_i hw2
        rw [if_neg hw2]
        obtain ⟨x, us, h1, h2⟩ := bd_split (y := r.1) (ts' := r.2) h
        obtain ⟨y, vs, h3, h4⟩ := bd_split h2
        rw [Ps.bd_ok h1, Ps.bd_ok (steps_up n m us _ h3 (by omega))]
        exact h4
    · rename_i hw
      rw [if_neg hw]
      exact h
section
variable {blk : Ps (List Stm)}
theorem arms_up : ∀ (n m : Nat) (ts : List Tk) (r : List Arm × List Tk), armsP blk n ts = .ok r → n ≤ m → armsP blk m ts = .ok r
  | 0, _, _, _, h, _ => by cases h
  | n + 1, 0, _, _, _, h => by omega
  | n + 1, m + 1, ts, r, h, hm => by
    simp only [armsP, optE] at h ⊢
    split at h
    · rename_i hw
      rw [if_pos hw]
      exact h
    · rename_i hw
      rw [if_neg hw]
      obtain ⟨x, us, h1, h2⟩ := bd_split (y := r.1) (ts' := r.2) h
      obtain ⟨y, vs, h3, h4⟩ := bd_split h2
      rw [Ps.bd_ok h1, Ps.bd_ok (arms_up n m us _ h3 (by omega))]
      exact h4
theorem stmts_up : ∀ (n m : Nat) (ts : List Tk) (r : List Stm × List Tk), stmtsP blk n ts = .ok r → n ≤ m → stmtsP blk m ts = .ok r
  | 0, _, _, _, h, _ => by cases h
  | n + 1, 0, _, _, _, h => by omega
  | n + 1, m + 1, ts, r, h, hm => by
    simp only [stmtsP, optE] at h ⊢
    split at h
    · rename_i hw
      rw [if_pos hw]
      exact h
    · rename_i hw
      rw [if_neg hw]
      obtain ⟨x, us, h1, h2⟩ := bd_split (y := r.1) (ts' := r.2) h
      obtain ⟨y, vs, h3, h4⟩ := bd_split h2
      rw [Ps.bd_ok h1, Ps.bd_ok (stmts_up n m us _ h3 (by omega))]
      exact h4
end

/-! ### What stands behind does not matter -/
section
variable {α β : Type} (r' : List Tk)
/-- It reads the same with others behind, if it leaves some. -/
def Gl (p : Ps α) : Prop := ∀ (pre : List Tk) (z : Tk) (v : α) (us : List Tk), z.k = 0 → p (pre ++ [z]) = .ok (v, us) →
  ∃ pre2, us = pre2 ++ [z] ∧ pre2.length ≤ pre.length ∧ (pre2 ≠ [] → p (pre ++ r') = .ok (v, pre2 ++ r'))
/-- .. in any case. -/
def Gc (p : Ps α) : Prop := ∀ (pre : List Tk) (z : Tk) (v : α) (us : List Tk), z.k = 0 → p (pre ++ [z]) = .ok (v, us) →
  ∃ pre2, us = pre2 ++ [z] ∧ pre2.length ≤ pre.length ∧ p (pre ++ r') = .ok (v, pre2 ++ r')
variable {r'}
theorem Gc.gl {p : Ps α} (h : Gc r' p) : Gl r' p := fun pre z v us hz e => by
  obtain ⟨q, h1, h2, h3⟩ := h pre z v us hz e
  exact ⟨q, h1, h2, fun _ => h3⟩
theorem Gc.ret (x : α) : Gc r' (Ps.ret x) := fun pre z v us _ h => by
  injection h with h
  injection h with h1 h2
  subst h1 h2
  exact ⟨pre, rfl, Nat.le_refl _, rfl⟩
theorem Gl.ret (x : α) : Gl r' (Ps.ret x) := (Gc.ret x).gl
theorem Gc.stp (e : Int) : Gc r' (stp e : Ps α) := fun _ _ _ _ _ h => by (cases h)
theorem Gl.bd {p : Ps α} {f : α → Ps β} (hp : Gl r' p) (hf : ∀ x, Gl r' (f x)) : Gl r' (p.bd f) := fun pre z v us hz h => by
  obtain ⟨x, vs, h1, h2⟩ := bd_split h
  obtain ⟨q, rfl, h3, h4⟩ := hp pre z x vs hz h1
  obtain ⟨q2, h5, h6, h7⟩ := hf x q z v us hz h2
  refine ⟨q2, h5, by omega, fun hne => ?_⟩
  have hq : q ≠ [] := fun e => by
    subst e
    exact hne (List.length_eq_zero_iff.1 (by simpa using h6))
  rw [Ps.bd_ok (h4 hq)]
  exact h7 hne
theorem Gc.bd {p : Ps α} {f : α → Ps β} (hp : Gl r' p) (hf : ∀ x, Gc r' (f x)) (hb : ∀ x, Bad (f x)) : Gc r' (p.bd f) := fun pre z v us hz h => by
  obtain ⟨x, vs, h1, h2⟩ := bd_split h
  obtain ⟨q, rfl, h3, h4⟩ := hp pre z x vs hz h1
  obtain ⟨q2, h5, h6, h7⟩ := hf x q z v us hz h2
  have hq : q ≠ [] := fun e => by
    subst e
    rw [List.nil_append, hb x z hz] at h2
    cases h2
  exact ⟨q2, h5, by omega, by rw [Ps.bd_ok (h4 hq)]; exact h7⟩
theorem Gc.bdc {p : Ps α} {f : α → Ps β} (hp : Gc r' p) (hf : ∀ x, Gc r' (f x)) : Gc r' (p.bd f) := fun pre z v us hz h => by
  obtain ⟨x, vs, h1, h2⟩ := bd_split h
  obtain ⟨q, rfl, h3, h4⟩ := hp pre z x vs hz h1
  obtain ⟨q2, h5, h6, h7⟩ := hf x q z v us hz h2
  exact ⟨q2, h5, by omega, by rw [Ps.bd_ok h4]; exact h7⟩
theorem Gl.optE {s : ByteArray} {p q : Ps α} (hp : Gl r' p) (hq : Gl r' q) : Gl r' (optE s p q) := fun pre z v us hz h => by
  cases pre with
  | nil =>
    rw [List.nil_append, optE_f (isW_end hz [])] at h
    obtain ⟨q2, h1, h2, _⟩ := hq [] z v us hz h
    exact ⟨q2, h1, h2, fun hne => absurd (List.length_eq_zero_iff.1 (by simpa using h2)) hne⟩
  | cons a pre =>
    cases hw : isW s (a :: pre ++ [z]) with
    | false =>
      rw [optE_f hw] at h
      rw [optE_f (by rw [← hw]; rfl)]
      exact hq (a :: pre) z v us hz h
    | true =>
      rw [optE_t hw] at h
      rw [optE_t (by rw [← hw]; rfl)]
      obtain ⟨q2, h1, h2, h3⟩ := hp pre z v us hz h
      exact ⟨q2, h1, by simp; omega, h3⟩
theorem Gc.optE {s : ByteArray} {p q : Ps α} (hp : Gc r' p) (hq : Gc r' q) (hb : Bad q) : Gc r' (Go.Proofs.YtjoiflokekebkaaGreatDoor.optE s p q) := fun pre z v us hz h => by
  cases pre with
  | nil =>
    rw [List.nil_append, optE_f (isW_end hz []), hb z hz] at h
    cases h
  | cons a pre =>
    cases hw : isW s (a :: pre ++ [z]) with
    | false =>
      rw [optE_f hw] at h
      rw [optE_f (by rw [← hw]; rfl)]
      exact hq (a :: pre) z v us hz h
    | true =>
      rw [optE_t hw] at h
      rw [optE_t (by rw [← hw]; rfl)]
      obtain ⟨q2, h1, h2, h3⟩ := hp pre z v us hz h
      exact ⟨q2, h1, by simp; omega, h3⟩
theorem Gc.must (s : ByteArray) : Gc r' (must s) := fun pre z v us hz h => by
  cases pre with
  | nil =>
    rw [List.nil_append, Bad.must s z hz] at h
    cases h
  | cons a pre =>
    unfold Go.Proofs.YtjoiflokekebkaaGreatDoor.must at h ⊢
    split at h
    · rename_i hw
      rw [if_pos (by rw [← hw]; rfl)]
      injection h with h
      injection h with h1 h2
      subst h2
      exact ⟨pre, rfl, by simp, rfl⟩
    · cases h
theorem Gc.name (g : Bool) : Gc r' (name g) := fun pre z v us hz h => by
  cases pre with
  | nil =>
    rw [List.nil_append, Bad.name g z hz] at h
    cases h
  | cons a pre =>
    unfold Go.Proofs.YtjoiflokekebkaaGreatDoor.name at h ⊢
    split at h
    · rename_i hw
      rw [if_pos (by rw [← hw]; rfl)]
      injection h with h
      injection h with h1 h2
      subst h1 h2
      exact ⟨pre, rfl, by simp, rfl⟩
    · cases h
theorem Gl.numE {p : Int → Ps α} {q : Ps α} (hp : ∀ n, Gl r' (p n)) (hq : Gl r' q) : Gl r' (numE p q) := fun pre z v us hz h => by
  unfold Go.Proofs.YtjoiflokekebkaaGreatDoor.numE at h ⊢
  cases pre with
  | nil =>
    rw [List.nil_append, if_neg (by simp [hd, hz])] at h
    obtain ⟨q2, h1, h2, _⟩ := hq [] z v us hz h
    exact ⟨q2, h1, h2, fun hne => absurd (List.length_eq_zero_iff.1 (by simpa using h2)) hne⟩
  | cons a pre =>
    split at h
    · rename_i hw
      rw [if_pos (by rw [← hw]; rfl)]
      obtain ⟨q2, h1, h2, h3⟩ := hp _ pre z v us hz h
      exact ⟨q2, h1, by simp; omega, h3⟩
    · rename_i hw
      rw [if_neg (fun h => hw (by rw [← h]; rfl))]
      exact hq (a :: pre) z v us hz h
theorem Gl.greatE {p q : Ps α} (hp : Gl r' p) (hq : Gl r' q) : Gl r' (greatE p q) := fun pre z v us hz h => by
  unfold Go.Proofs.YtjoiflokekebkaaGreatDoor.greatE at h ⊢
  cases pre with
  | nil =>
    rw [List.nil_append, if_neg (by rw [named_end hz]; decide)] at h
    obtain ⟨q2, h1, h2, _⟩ := hq [] z v us hz h
    exact ⟨q2, h1, h2, fun hne => absurd (List.length_eq_zero_iff.1 (by simpa using h2)) hne⟩
  | cons a pre =>
    split at h
    · rename_i hw
      rw [if_pos (show namedB true (hd (a :: pre ++ r')) = true from hw)]
      exact hp (a :: pre) z v us hz h
    · rename_i hw
      rw [if_neg (show ¬ namedB true (hd (a :: pre ++ r')) = true from hw)]
      exact hq (a :: pre) z v us hz h
/-- With fuel by how many tokens there are. -/
theorem Gl.fuel {p : Nat → Ps α} (hup : ∀ n m ts r, p n ts = .ok r → n ≤ m → p m ts = .ok r) (hf : ∀ n m ts, ts.length < n → ts.length < m → p n ts = p m ts) (h : ∀ n, Gl r' (p n)) : Gl r' (fun ts => p (ts.length + 1) ts) := fun pre z v us hz e => by
  obtain ⟨q, h1, h2, h3⟩ := h _ pre z v us hz e
  refine ⟨q, h1, h2, fun hne => ?_⟩
  have h4 := h3 hne
  simp only
  by_cases hm : (pre ++ [z]).length + 1 ≤ (pre ++ r').length + 1
  · exact hup _ _ _ _ h4 hm
  · rw [← hf ((pre ++ [z]).length + 1) _ _ (by omega) (by omega)]
    exact h4
theorem Gc.fuel {p : Nat → Ps α} (hup : ∀ n m ts r, p n ts = .ok r → n ≤ m → p m ts = .ok r) (hf : ∀ n m ts, ts.length < n → ts.length < m → p n ts = p m ts) (h : ∀ n, Gc r' (p n)) : Gc r' (fun ts => p (ts.length + 1) ts) := fun pre z v us hz e => by
  obtain ⟨q, h1, h2, h4⟩ := h _ pre z v us hz e
  refine ⟨q, h1, h2, ?_⟩
  simp only
  by_cases hm : (pre ++ [z]).length + 1 ≤ (pre ++ r').length + 1
  · exact hup _ _ _ _ h4 hm
  · rw [← hf ((pre ++ [z]).length + 1) _ _ (by omega) (by omega)]
    exact h4
theorem Gc.more {fin : ByteArray} {read : Ps α} (hr : Gl r' read) : ∀ n, Gc r' (moreP fin read n)
  | 0 => Gc.stp _
  | n + 1 => Gc.optE (Gc.bd hr (fun _ => Gc.bdc (Gc.more hr n) fun _ => Gc.ret _) (fun _ => by
      cases n with
      | zero => exact Bad.bd Bad.stp
      | succ n => exact Bad.bd (Bad.optE (Bad.bd (Bad.must _))))) (Gc.bdc (Gc.must _) fun _ => Gc.ret _) (Bad.bd (Bad.must _))
theorem Gc.list {fin : ByteArray} {read : Ps α} (hl : Le read) (hr : Gl r' read) (hb : Bad read) : Gc r' (listP fin read) := by
  have hm : Gc r' (fun ts => moreP fin read (ts.length + 1) ts) := Gc.fuel more_up (more_fuel hl) (Gc.more hr)
  refine Gc.optE (Gc.ret _) (Gc.bd hr (fun x => ?_) (fun x => ?_)) (Bad.bd hb)
  · exact Gc.bdc (p := fun ts => moreP fin read (ts.length + 1) ts) (f := fun l => .ret (x :: l)) hm fun _ => Gc.ret _
  · exact Bad.at_ (f := fun us => (moreP fin read (us.length + 1)).bd (fun l => .ret (x :: l))) fun us => Bad.bd (Bad.optE (Bad.bd (Bad.must _)))
end
section
variable {r' : List Tk}
theorem Gl.ty : ∀ k, Gl r' (tyP k)
  | 0 => (Gc.stp _).gl
  | k + 1 => Gl.optE (Gl.ret _) (Gl.optE (Gl.bd (Gc.name _).gl fun _ => Gl.ret _) (Gl.optE (Gl.bd (Gl.ty k) fun _ => Gl.ret _)
      (Gl.optE (Gl.optE (Gl.bd (Gl.ty k) fun _ => Gl.ret _) (Gl.bd (Gl.ty k) fun _ => Gl.ret _)) (Gl.bd (Gc.name _).gl fun _ => Gl.ret _))))
theorem Gl.field : Gl r' fieldP := Gl.bd (Gc.name _).gl fun _ => Gl.bd (Gc.must _).gl fun _ => Gl.bd (Gl.ty _) fun _ => Gl.ret _
theorem Gl.variant : Gl r' variantP := Gl.bd (Gc.name _).gl fun _ => Gl.optE (Gl.bd (Gl.ty _) fun _ => Gl.bd (Gc.must _).gl fun _ => Gl.ret _) (Gl.ret _)
theorem Gl.steps : ∀ n, Gl r' (stepsP n)
  | 0 => (Gc.stp _).gl
  | n + 1 => Gl.optE (Gl.optE (Gl.bd (Gl.steps n) fun _ => Gl.ret _) (Gl.bd (Gc.name _).gl fun _ => Gl.bd (Gl.steps n) fun _ => Gl.ret _)) (Gl.ret _)
theorem Gl.place : Gl r' placeP := Gl.bd (Gc.name _).gl fun n => Gl.bd (p := fun ts => stepsP (ts.length + 1) ts) (f := fun l => Ps.ret (⟨n, l⟩ : Plc)) (Gl.fuel steps_up steps_fuel Gl.steps) fun _ => Gl.ret _
theorem Gl.bare : Gl r' bareP := Gl.bd (Gc.name _).gl fun _ => Gl.ret _
theorem Gl.oper : Gl r' operP := Gl.optE (Gl.numE (fun _ => Gl.ret _) (Gc.stp _).gl) (Gl.numE (fun _ => Gl.ret _) (Gl.bd Gl.place fun _ => Gl.ret _))
theorem Gl.args : Gl r' argsP := Gl.bd (Gc.must _).gl fun _ => (Gc.list Lt.oper.le Gl.oper Bad.oper).gl
theorem Gl.made : Gl r' madeP := Gl.bd (Gc.name _).gl fun _ => Gl.optE (Gl.bd (Gc.name _).gl fun _ => Gl.optE (Gl.bd Gl.oper fun _ => Gl.bd (Gc.must _).gl fun _ => Gl.ret _) (Gl.ret _)) (Gl.bd Gl.args fun _ => Gl.ret _)
theorem Gl.sign (a : Opr) (k : Int) : Gl r' (signE a k) := Gl.bd Gl.oper fun _ => Gl.ret _
theorem Gl.set : Gl r' setP :=
  Gl.optE (Gl.optE (Gl.bd Gl.place fun _ => Gl.ret _) (Gl.bd Gl.place fun _ => Gl.ret _)) <| Gl.optE (Gl.bd Gl.oper fun _ => Gl.ret _) <| Gl.optE (Gl.bd Gl.oper fun _ => Gl.ret _) <|
  Gl.optE (Gl.bd Gl.bare fun _ => Gl.ret _) <| Gl.optE (Gl.bd Gl.bare fun _ => Gl.ret _) <| Gl.optE (Gl.bd Gl.bare fun _ => Gl.ret _) <|
  Gl.optE (Gl.bd (Gc.name _).gl fun _ => Gl.bd Gl.args fun _ => Gl.ret _) <| Gl.greatE Gl.made <|
  Gl.bd Gl.oper fun _ => Gl.optE (Gl.sign _ _) <| Gl.optE (Gl.sign _ _) <| Gl.optE (Gl.sign _ _) <| Gl.optE (Gl.sign _ _) <| Gl.optE (Gl.sign _ _) (Gl.ret _)
section
variable {blk : Ps (List Stm)} (hl : Le blk) (hb : Gc r' blk) (hx : Bad blk)
include hb hx
theorem Gc.arm : Gc r' (armP blk) := by
  have h : ∀ v b, Gc r' (blk.bd fun l => Ps.ret (Arm.mk v b l)) := fun v b => Gc.bdc hb fun _ => Gc.ret _
  exact Gc.bdc (Gc.name _) fun v => Gc.optE (Gc.bdc (Gc.name _) fun b => Gc.bdc (Gc.must _) fun _ => Gc.bdc (Gc.must _) fun _ => h v b) (Gc.bdc (Gc.must _) fun _ => h v _) (Bad.bd (Bad.must _))
theorem Gc.arms : ∀ n, Gc r' (armsP blk n)
  | 0 => Gc.stp _
  | n + 1 => Gc.optE (Gc.ret _) (Gc.bdc (Gc.arm hb hx) fun _ => Gc.bdc (Gc.arms n) fun _ => Gc.ret _) (Bad.bd (Bad.bd (Bad.name _)))
omit hb hx in
theorem Gl.simple (a : Int) : Gl r' (simpleP a) :=
  Gl.optE (Gl.bd (Gc.name _).gl fun _ => Gl.bd (Gc.must _).gl fun _ => Gl.bd (Gl.ty _) fun _ => Gl.bd (Gc.must _).gl fun _ => Gl.bd Gl.set fun _ => Gl.ret _) <|
  Gl.optE (Gl.bd Gl.oper fun _ => Gl.ret _) <| Gl.optE (Gl.bd Gl.oper fun _ => Gl.ret _) <| Gl.optE (Gl.bd Gl.oper fun _ => Gl.ret _) <| Gl.optE (Gl.bd Gl.bare fun _ => Gl.ret _) <|
  Gl.bd Gl.place fun _ => Gl.bd (Gc.must _).gl fun _ => Gl.bd Gl.set fun _ => Gl.ret _
include hl in
/-- A statement may end in an if that has no else: what stands behind must not be one. -/
theorem Gl.stmtQ (a : Int) : Gl r' (stmtQ blk a) :=
  Gl.optE (Gl.bd Gl.oper fun _ => Gl.bd hb.gl fun _ => Gl.optE (Gl.bd hb.gl fun _ => Gl.ret _) (Gl.ret _)) <|
  Gl.optE (Gl.bd Gl.oper fun _ => Gl.bd hb.gl fun _ => Gl.ret _) <|
  Gl.optE (Gl.bd Gl.bare fun p => Gl.bd (Gc.must _).gl fun _ => Gl.bd (p := fun us => armsP blk (us.length + 1) us) (f := fun l => Ps.ret (Stm.mk 4 a noB .zero p .zero .zero [] [] l)) (Gl.fuel arms_up (arms_fuel hl) fun n => (Gc.arms hb hx n).gl) fun _ => Gl.ret _) <|
  Gl.bd (Gl.simple _) fun _ => Gl.bd (Gc.must _).gl fun _ => Gl.ret _
omit hb hx in
theorem hd_pre {pre : List Tk} {z : Tk} (h : pre ≠ []) (r : List Tk) : hd (pre ++ [z]) = hd (pre ++ r) := by
  cases pre with
  | nil => exact absurd rfl h
  | cons a l => rfl
include hl in
theorem Gl.stmt : Gl r' (stmtP blk) := fun pre z v us hz h => by
  have h1 : stmtP blk (pre ++ [z]) = Go.Proofs.YtjoiflokekebkaaGreatDoor.stmtQ blk (hd (pre ++ [z])).at_ (pre ++ [z]) := rfl
  rw [h1] at h
  obtain ⟨q, e1, e2, e3⟩ := Gl.stmtQ hl hb hx _ pre z v us hz h
  refine ⟨q, e1, e2, fun hne => ?_⟩
  have hp : pre ≠ [] := fun e => by
    subst e
    exact hne (List.length_eq_zero_iff.1 (by simpa using e2))
  have h4 := e3 hne
  show Go.Proofs.YtjoiflokekebkaaGreatDoor.stmtQ blk (hd (pre ++ r')).at_ (pre ++ r') = _
  rw [← hd_pre hp r']
  exact h4
include hl in
theorem Gc.stmts : ∀ n, Gc r' (stmtsP blk n)
  | 0 => Gc.stp _
  | n + 1 => Gc.optE (Gc.ret _) (Gc.bd (Gl.stmt hl hb hx) (fun _ => Gc.bdc (Gc.stmts n) fun _ => Gc.ret _) (fun _ => by
      cases n with
      | zero => exact Bad.bd Bad.stp
      | succ n => exact Bad.bd (Bad.optE (Bad.bd fun z hz => Bad.stmtQ z.at_ z hz)))) (Bad.bd fun z hz => Bad.stmtQ z.at_ z hz)
end
theorem Bad.block : ∀ k, Bad (blockP k)
  | 0 => fun z hz => by simp only [blockP]; rw [if_neg (by rw [isW_end hz]; decide)]; rfl
  | k + 1 => Bad.bd (Bad.must _)
theorem Gc.block : ∀ k, Gc r' (blockP k)
  | 0 => fun pre z v us hz h => by simp only [blockP] at h; split at h <;> cases h
  | k + 1 => Gc.bdc (Gc.must _) fun _ => Gc.fuel (p := fun n => stmtsP (blockP k) n) stmts_up (stmts_fuel (Le.block k)) (Gc.stmts (Le.block k) (Gc.block k) (Bad.block k))
theorem Gc.struct (d : Bool) (a : Int) : Gc r' (structP d a) := Gc.bdc (Gc.must _) fun _ => Gc.bdc (Gc.name _) fun _ => Gc.bdc (Gc.must _) fun _ => Gc.bdc (Gc.list Lt.field.le Gl.field Bad.field) fun _ => Gc.ret _
theorem Gc.enum (a : Int) : Gc r' (enumP a) := Gc.bdc (Gc.name _) fun _ => Gc.bdc (Gc.must _) fun _ => Gc.bdc (Gc.list Lt.variant.le Gl.variant Bad.variant) fun _ => Gc.ret _
theorem Gc.fn (a : Int) : Gc r' (fnP a) := Gc.bdc (Gc.must _) fun _ => Gc.bdc (Gc.name _) fun _ => Gc.bdc (Gc.must _) fun _ => Gc.bdc (Gc.list Lt.field.le Gl.field Bad.field) fun _ => Gc.bdc (Gc.block _) fun _ => Gc.ret _
theorem Gc.itemQ (s : Src) (a : Int) : Gc r' (itemQ s a) := by
  refine Gc.optE (Gc.bdc (Gc.struct _ _) fun _ => Gc.ret _) (fun pre z v us hz h => ?_) (fun z hz => ?_)
  · cases pre with
    | nil =>
      have h0 : Bad ((fnP a).bd fun x => .ret { s with fs := s.fs ++ [x] }) := Bad.bd (Bad.bd (Bad.must _))
      rw [List.nil_append, if_neg (by rw [isW_end hz]; decide), optE_f (isW_end hz []), h0 z hz] at h
      cases h
    | cons b pre =>
      split at h
      · rename_i hw
        rw [if_pos (by rw [← hw]; rfl)]
        exact Gc.bdc (Gc.struct _ _) (fun _ => Gc.ret _) (b :: pre) z v us hz h
      · rename_i hw
        rw [if_neg (fun h => hw (by rw [← h]; rfl))]
        exact Gc.optE (Gc.bdc (Gc.enum _) fun _ => Gc.ret _) (Gc.bdc (Gc.fn _) fun _ => Gc.ret _) (Bad.bd (Bad.bd (Bad.must _))) (b :: pre) z v us hz h
  · rw [if_neg (by rw [isW_end hz]; decide), optE_f (isW_end hz [])]
    exact Bad.bd (p := fnP a) (Bad.bd (Bad.must _)) z hz
end
theorem items_glue : ∀ (n : Nat) (s : Src) (pre : List Tk) (z : Tk) (v : Src) (us r' : List Tk) (N : Nat), z.k = 0 → (∀ a ∈ pre, a.k ≠ 0) → itemsP n s (pre ++ [z]) = .ok (v, us) → (pre ++ r').length < N →
    ∃ N', r'.length < N' ∧ itemsP N s (pre ++ r') = itemsP N' v r'
  | 0, _, _, _, _, _, _, _, _, _, h, _ => by cases h
  | n + 1, s, pre, z, v, us, r', N, hz, hp, h, hN => by
    obtain ⟨N, rfl⟩ : ∃ m, N = m + 1 := ⟨N - 1, by omega⟩
    cases pre with
    | nil =>
      have h0 : itemsP (n + 1) s [z] = .ok (s, [z]) := by rw [itemsP]; exact if_pos hz
      rw [List.nil_append, h0] at h
      injection h with h
      injection h with h _
      subst h
      exact ⟨N + 1, by simpa using hN, rfl⟩
    | cons a pre =>
      have ha : (hd (a :: pre ++ [z])).k ≠ 0 := hp a List.mem_cons_self
      have ha' : (hd (a :: pre ++ r')).k ≠ 0 := ha
      have h0 : itemsP (n + 1) s (a :: pre ++ [z]) = (itemP s).bd (itemsP n) (a :: pre ++ [z]) := by rw [itemsP]; exact if_neg ha
      rw [h0] at h
      obtain ⟨x, vs, h1, h2⟩ := bd_split h
      have h3 : itemQ s a.at_ (a :: pre ++ [z]) = .ok (x, vs) := h1
      obtain ⟨q, rfl, h4, h5⟩ := Gc.itemQ (r' := r') s a.at_ (a :: pre) z x vs hz h3
      have h6 := (Lt.itemQ s a.at_ _ _ _ h5)
      have h7 := (Lt.itemQ s a.at_ _ _ _ h3).1
      have hq : ∀ b ∈ q, b.k ≠ 0 := fun b hb => by
        obtain ⟨t, ht⟩ := h7
        have : a :: pre = t ++ q := by
          have h8 : (t ++ q) ++ [z] = (a :: pre) ++ [z] := by rw [← ht]; simp
          exact (List.append_inj_left' h8 rfl).symm
        exact hp b (by rw [this]; exact List.mem_append_right _ hb)
      obtain ⟨N', h9, h10⟩ := items_glue n x q z v us r' N hz hq h2 (by have := h6.2; simp at this hN ⊢; omega)
      refine ⟨N', h9, ?_⟩
      have h11 : itemsP (N + 1) s (a :: pre ++ r') = (itemP s).bd (itemsP N) (a :: pre ++ r') := by rw [itemsP]; exact if_neg ha'
      rw [h11, Ps.bd_ok (show itemP s (a :: pre ++ r') = .ok (x, q ++ r') from h5), h10]

/-! ### Items behind others -/
def sApp (a b : Src) : Src := ⟨a.ss ++ b.ss, a.es ++ b.es, a.fs ++ b.fs⟩
theorem sApp_zero (a : Src) : sApp a .zero = a := by simp [sApp, Src.zero]
theorem bd_map {α β : Type} (p : Ps α) (f f' : α → Ps β) (g : β → β) (h : ∀ x ts, f' x ts = (f x ts).map (fun r => (g r.1, r.2))) (ts : List Tk) : p.bd f' ts = (p.bd f ts).map (fun r => (g r.1, r.2)) := by
  unfold Ps.bd
  cases p ts with
  | error e => rfl
  | ok r => exact h r.1 r.2
theorem itemQ_acc (a s : Src) (at_ : Int) (ts : List Tk) : itemQ (sApp a s) at_ ts = (itemQ s at_ ts).map (fun r => (sApp a r.1, r.2)) := by
  unfold itemQ optE
  have h1 : ∀ d, ∀ us, (structP d at_).bd (fun x => .ret { sApp a s with ss := (sApp a s).ss ++ [x] }) us = ((structP d at_).bd (fun x => .ret { s with ss := s.ss ++ [x] }) us).map (fun r => (sApp a r.1, r.2)) := fun d us =>
    bd_map _ _ _ (sApp a) (fun x ts => by simp [Ps.ret, Except.map, sApp]) us
  split
  · exact h1 _ _
  · dsimp only
    split
    · exact h1 _ _
    · split
      · exact bd_map _ _ _ (sApp a) (fun x ts => by simp [Ps.ret, Except.map, sApp]) _
      · exact bd_map _ _ _ (sApp a) (fun x ts => by simp [Ps.ret, Except.map, sApp]) _
theorem items_acc (a : Src) : ∀ (n : Nat) (s : Src) (ts : List Tk), itemsP n (sApp a s) ts = (itemsP n s ts).map (fun r => (sApp a r.1, r.2))
  | 0, s, ts => rfl
  | n + 1, s, ts => by
    simp only [itemsP]
    by_cases hk : (hd ts).k = 0
    · rw [if_pos hk, if_pos hk]; rfl
    · rw [if_neg hk, if_neg hk]
      unfold Ps.bd itemP
      rw [itemQ_acc]
      cases itemQ s (hd ts).at_ ts with
      | error e => rfl
      | ok r => exact items_acc a n r.1 r.2
end Go.Proofs.YtjoiflokekebkaaGreatDoor
end

section
/- Plain: two texts with a newline between; blanks between tokens. -/
namespace Go.Proofs.YtjoiflokekebkaaGreatDoor

def Ends (ts : List Tk) : Prop := ts ≠ [] ∧ ∀ (i : Nat) (t : Tk), ts[i]? = some t → t.k ≠ 0 → i + 1 < ts.length
theorem Ends.tail {ts : List Tk} (h : Ends ts) (hk : (hd ts).k ≠ 0) : Ends ts.tail := by
  obtain ⟨h1, h2⟩ := h
  cases ts with
  | nil => exact absurd rfl h1
  | cons t r =>
    have := h2 0 t rfl hk
    refine ⟨by intro e; subst e; simp at this, fun i x hx hx0 => ?_⟩
    have := h2 (i + 1) x (by simpa using hx) hx0
    simp at this ⊢
    omega
/-- Rows of tokens, one by one the same but for where they stand. -/
def pairs (E : Int → Int → Prop) : TR where
  R ts ts' := Ends ts ∧ ts.length = ts'.length ∧ ∀ (i : Nat) (t t' : Tk), ts[i]? = some t → ts'[i]? = some t' → t.k = t'.k ∧ t.s = t'.s ∧ t.n = t'.n ∧ E t.at_ t'.at_
  E := E
  hds := fun {ts ts'} h => by
    obtain ⟨h1, h2, h3⟩ := h
    match ts, ts', h1.1, h2 with
    | t :: r, t' :: r', _, _ => exact h3 0 t t' rfl rfl
  tls := fun {ts ts'} h hk => by
    obtain ⟨h1, h2, h3⟩ := h
    refine ⟨h1.tail hk, by simp [h2], fun i t t' ht ht' => h3 (i + 1) t t' ?_ ?_⟩
    · rw [List.getElem?_tail] at ht; exact ht
    · rw [List.getElem?_tail] at ht'; exact ht'
  len := fun h => h.2.1
theorem lexB_last {s : ByteArray} {l : List Tk} (h : lexB s = .ok l) : ∃ pre z, l = pre ++ [z] ∧ z.k = 0 ∧ (∀ a ∈ pre, a.k ≠ 0) ∧ Ends l := by
  obtain ⟨hT, hsz⟩ := lexB_toks h
  have hl : lexFrom s 0 = .ok l := by rw [lexB, if_neg (by omega)] at h; exact h
  have hK := from_kind s _ 0 (Nat.le_refl _) (Nat.zero_le _) l hl
  have he := List.dropLast_concat_getLast hT.ne
  have hlen : l.length = l.dropLast.length + 1 := by
    have := congrArg List.length he
    simpa using this.symm
  refine ⟨l.dropLast, l.getLast hT.ne, he.symm, ?_, fun a ha => ?_, hT.ne, hT.fin⟩
  · apply Classical.byContradiction
    intro h0
    have := hT.fin (l.length - 1) (l.getLast hT.ne) (by rw [List.getLast_eq_getElem]; exact List.getElem?_eq_getElem _) h0
    omega
  · obtain ⟨i, hi, hia⟩ := List.getElem_of_mem ha
    have hil : i + 1 < l.length := by omega
    have := (hK i a (by rw [← hia, List.getElem_dropLast]; exact List.getElem?_eq_getElem (by omega)) hil).1
    omega
theorem parseB_ok {s : ByteArray} {x : Src} (h : parseB s = .ok x) : ∃ l us, lexB s = .ok l ∧ itemsP (l.length + 1) .zero l = .ok (x, us) := by
  unfold parseB at h
  cases hl : lexB s with
  | error e => rw [hl] at h; cases h
  | ok l =>
    rw [hl] at h
    simp only at h
    cases hi : itemsP (l.length + 1) .zero l with
    | error e => rw [hi] at h; cases h
    | ok r =>
      rw [hi] at h
      simp only at h
      injection h with h
      exact ⟨l, r.2, rfl, by rw [hi, ← h]⟩
theorem parseB_items {s : ByteArray} {l : List Tk} (hl : lexB s = .ok l) : parseB s = (itemsP (l.length + 1) .zero l).map (·.1) := by
  rw [parseB, hl]
  simp only
  cases itemsP (l.length + 1) .zero l with
  | error e => rfl
  | ok r => rfl
theorem lexB_glue3 {a b : ByteArray} (ha : a.size ≤ 3000) (hb : b.size ≤ 3000) : lexB (a ++ nlB ++ b) = glueE (a.size + 1) (lexB a) (lexB b) := by
  have hsz : (a ++ nlB ++ b).size = a.size + 1 + b.size := by rw [ByteArray.size_append, ByteArray.size_append]; rfl
  rw [lexB, lexB, lexB, if_neg (by omega), if_neg (by omega), if_neg (by omega)]
  exact lex_glue a b _ 0 (Nat.le_refl _) (Nat.zero_le _)
/-- Two texts with a newline between, the first one read whole. -/
theorem glue_any {a b : ByteArray} (ha : a.size ≤ 3000) (hb : b.size ≤ 3000) {x : Src} (hx : parseB a = .ok x) {lb : List Tk} (hlb : lexB b = .ok lb) :
    (∃ y z, parseB b = .ok y ∧ parseB (a ++ nlB ++ b) = .ok z ∧ z.st = (sApp x y).st) ∨ (∃ f k, parseB b = .error (f, k) ∧ parseB (a ++ nlB ++ b) = .error (f, (a.size : Int) + 1 + k)) := by
  obtain ⟨la, us, hla, hi⟩ := parseB_ok hx
  obtain ⟨pre, z, rfl, hz, hp, hE⟩ := lexB_last hla
  have hlg : lexB (a ++ nlB ++ b) = .ok (pre ++ lb.map (shiftT (a.size + 1))) := by
    rw [lexB_glue3 ha hb, hla, hlb, glueE, List.dropLast_concat]
  obtain ⟨N', h1, h2⟩ := items_glue _ _ _ _ _ _ (lb.map (shiftT (a.size + 1))) ((pre ++ lb.map (shiftT (a.size + 1))).length + 1) hz hp hi (by omega)
  have h3 : itemsP N' x (lb.map (shiftT (a.size + 1))) = (itemsP (lb.length + 1) .zero (lb.map (shiftT (a.size + 1)))).map (fun r => (sApp x r.1, r.2)) := by
    rw [← items_acc, sApp_zero]
    exact items_fuel _ _ _ _ h1 (by simp)
  rw [parseB_items hlg, parseB_items hlb, h2, h3]
  have hR : (pairs (fun i j => j = (a.size : Int) + 1 + i)).R lb (lb.map (shiftT (a.size + 1))) := by
    obtain ⟨_, _, _, _, _, hEb⟩ := lexB_last hlb
    refine ⟨hEb, by simp, fun i t t' ht ht' => ?_⟩
    rw [List.getElem?_map, ht] at ht'
    injection ht' with ht'
    subst ht'
    refine ⟨rfl, rfl, rfl, ?_⟩
    simp only [shiftT]
    omega
  rcases RP.items (lb.length + 1) (s := .zero) (s' := .zero) rfl lb _ hR with ⟨y, us1, y', us2, e1, e2, e3, _⟩ | ⟨e, k, k', e1, e2, e3⟩
  · left
    rw [e1, e2]
    refine ⟨y, sApp x y', rfl, rfl, ?_⟩
    simp only [Src.st, Src.mk.injEq] at e3
    simp only [sApp, Src.st, List.map_append, e3.1, e3.2.1, e3.2.2]
  · right
    rw [e1, e2]
    have e3 : k' = (a.size : Int) + 1 + k := e3
    subst e3
    exact ⟨e, k, rfl, rfl⟩

/-! ### Blanks -/
/-- The tokens' texts, each behind a newline. -/
def tailT : List Tk → ByteArray
  | [] => ByteArray.empty
  | t :: r => nlB ++ t.s ++ tailT r
/-- Where they stand in it. -/
def blankAt : List Tk → Nat → List Int
  | [], _ => []
  | t :: r, n => ((n : Int) + 1) :: blankAt r (n + 1 + t.s.size)
def moved : List Tk → List Int → List Tk
  | t :: r, a :: l => { t with at_ := a } :: moved r l
  | _, _ => []
theorem tailT_cons (t : Tk) (r : List Tk) (acc : ByteArray) : acc ++ tailT (t :: r) = acc ++ nlB ++ t.s ++ tailT r := by
  rw [tailT, ByteArray.append_assoc, ByteArray.append_assoc, ByteArray.append_assoc]
theorem blank_lex (s : ByteArray) : ∀ (k a : Nat), s.size - a ≤ k → a ≤ s.size → ∀ l, lexFrom s a = .ok l → ∀ acc : ByteArray, lexFrom (acc ++ tailT l) acc.size = .ok (moved l (blankAt l acc.size)) ∧ (tailT l).size ≤ 2 * (s.size - a) + 1 := by
  intro k
  have hnl : nlB.size = 1 := rfl
  have one : ∀ (acc u : ByteArray), piece ((acc ++ nlB ++ u).data.toList.drop acc.size) = .skip 1 := fun acc u => by
    have hz := bsize acc
    rw [ByteArray.toList_data_append, ByteArray.toList_data_append, List.append_assoc, List.drop_append_of_le_length (by omega), List.drop_of_length_le (by omega)]
    have hp : passedN (10 :: u.data.toList) = 1 := by simp [passedN, Lib.hasPrefix]
    show piece (10 :: u.data.toList) = _
    rw [piece, hp, if_pos (by omega)]
  have fin : ∀ acc : ByteArray, lexFrom (acc ++ tailT [⟨0, ⟨#[]⟩, 0, (s.size : Int)⟩]) acc.size = .ok (moved [⟨0, ⟨#[]⟩, 0, (s.size : Int)⟩] (blankAt [⟨0, ⟨#[]⟩, 0, (s.size : Int)⟩] acc.size)) := fun acc => by
    have e : acc ++ tailT [⟨0, ⟨#[]⟩, 0, (s.size : Int)⟩] = acc ++ nlB ++ ByteArray.empty := by
      rw [tailT, tailT]
      have : (⟨#[]⟩ : ByteArray) = ByteArray.empty := rfl
      rw [this, ByteArray.append_empty, ByteArray.append_empty, ByteArray.append_empty]
    have hz : (acc ++ nlB ++ ByteArray.empty).size = acc.size + 1 := by rw [ByteArray.size_append, ByteArray.size_append]; rfl
    rw [e, lex_skip (by omega) (one acc _), lex_end (by omega), hz]
    rfl
  induction k with
  | zero =>
    intro a hk ha l hl acc
    rw [lex_end (by omega)] at hl
    injection hl with hl
    subst hl
    exact ⟨fin acc, by rw [tailT, tailT, ByteArray.append_empty, ByteArray.size_append, hnl, show (⟨#[]⟩ : ByteArray).size = 0 from rfl]; omega⟩
  | succ k ih =>
    intro a hk ha l hl acc
    obtain ⟨p, x, r, rfl, h2, h3, h4⟩ := from_head s _ a (Nat.le_refl _) ha l hl
    have hle := h2.le
    rcases h4 with ⟨rfl, rfl, rfl⟩ | ⟨kd, n, v, h4, h5, h6, h7, rfl, h9⟩
    · exact ⟨fin acc, by rw [tailT, tailT, ByteArray.append_empty, ByteArray.size_append, hnl, show (⟨#[]⟩ : ByteArray).size = 0 from rfl]; omega⟩
    · have hsz : (s.extract p (p + n)).size = n := by simp; omega
      obtain ⟨i1, i2⟩ := ih (p + n) (by omega) h6 r h9 (acc ++ nlB ++ s.extract p (p + n))
      have hza : (acc ++ nlB ++ s.extract p (p + n)).size = acc.size + 1 + n := by rw [ByteArray.size_append, ByteArray.size_append, hnl, hsz]
      rw [hza] at i1
      refine ⟨?_, ?_⟩
      · rw [tailT_cons]
        simp only
        obtain ⟨t', r', rfl⟩ : ∃ t' r', r = t' :: r' := by
          cases r with
          | nil => exact absurd rfl (from_ne h9)
          | cons t' r' => exact ⟨t', r', rfl⟩
        have hT : (acc ++ nlB ++ s.extract p (p + n) ++ tailT (t' :: r')).size = acc.size + 1 + n + (tailT (t' :: r')).size := by rw [ByteArray.size_append, hza]
        have hT2 : 0 < (tailT (t' :: r')).size := by rw [tailT, ByteArray.size_append, ByteArray.size_append, hnl]; omega
        have e1 : acc ++ nlB ++ s.extract p (p + n) ++ tailT (t' :: r') = acc ++ nlB ++ (s.extract p (p + n) ++ tailT (t' :: r')) := by rw [ByteArray.append_assoc]
        have hpc : piece ((acc ++ nlB ++ s.extract p (p + n) ++ tailT (t' :: r')).data.toList.drop (acc.size + 1)) = .tok kd n v := by
          have hz1 : (acc ++ nlB).data.toList.length = acc.size + 1 := by rw [bsize, ByteArray.size_append, hnl]
          have e2 : (acc ++ nlB ++ s.extract p (p + n) ++ tailT (t' :: r')).data.toList.drop (acc.size + 1) = (s.data.toList.drop p).take n ++ 10 :: (t'.s ++ tailT r').data.toList := by
            rw [e1, ByteArray.toList_data_append, List.drop_append_of_le_length (by omega), List.drop_of_length_le (by omega), List.nil_append, ByteArray.toList_data_append]
            congr 1
            · simp
          rw [e2, piece_nl]
          · exact piece_tok_take h5 (Nat.le_refl _)
          · intro q
            have := congrArg List.length q
            rw [List.length_take, List.length_drop, bsize] at this
            simp at this
            omega
        rw [lex_skip (by omega) (by rw [e1]; exact one acc _), lex_tok (by omega) hpc, i1]
        have hx : (acc ++ nlB ++ s.extract p (p + n) ++ tailT (t' :: r')).extract (acc.size + 1) (acc.size + 1 + n) = s.extract p (p + n) := by
         rw [e1]
         have := ext_right (acc ++ nlB) (s.extract p (p + n) ++ tailT (t' :: r')) 0 n
         rw [ByteArray.size_append, hnl] at this
         rw [Nat.add_zero] at this
         rw [this, ext_left _ _ _ _ (by omega)]
         apply bytes_eq; simp
        simp [Except.map, blankAt, moved, hsz, hx]
      · rw [tailT, ByteArray.size_append, ByteArray.size_append, hnl, hsz]
        omega
theorem moved_get {l : List Tk} {at_ : List Int} (hlen : l.length = at_.length) : (moved l at_).length = l.length ∧ ∀ (i : Nat) (t t' : Tk), l[i]? = some t → (moved l at_)[i]? = some t' → t' = { t with at_ := t'.at_ } ∧ at_[i]? = some t'.at_ := by
  induction l generalizing at_ with
  | nil => exact ⟨by simp [moved], fun i t t' h => by simp at h⟩
  | cons x r ih =>
    cases at_ with
    | nil => simp at hlen
    | cons a bs =>
      obtain ⟨h1, h2⟩ := ih (at_ := bs) (by simpa using hlen)
      refine ⟨by simp [moved, h1], fun i t t' ht ht' => ?_⟩
      cases i with
      | zero =>
        simp [moved] at ht ht'
        subst ht ht'
        simp
      | succ i =>
        simp [moved] at ht ht'
        simpa using h2 i t t' ht ht'
theorem blankAt_length (l : List Tk) : ∀ n, (blankAt l n).length = l.length := by
  induction l with
  | nil => intro n; rfl
  | cons t r ih => intro n; simp [blankAt, ih]
/-- A newline ahead of each token changes nothing. -/
theorem blanks_any {s : ByteArray} (hs : s.size ≤ 3000) {l : List Tk} (hl : lexB s = .ok l) :
    (∃ x y, parseB s = .ok x ∧ parseB (tailT l) = .ok y ∧ x.st = y.st) ∨ (∃ (f i k : Int) (j : Nat) (t : Tk), parseB s = .error (f, i) ∧ parseB (tailT l) = .error (f, k) ∧ l[j]? = some t ∧ t.at_ = i ∧ (blankAt l 0)[j]? = some k) := by
  obtain ⟨hT, hsz⟩ := lexB_toks hl
  have hlf : lexFrom s 0 = .ok l := by rw [lexB, if_neg (by omega)] at hl; exact hl
  obtain ⟨h1, h2⟩ := blank_lex s _ 0 (Nat.le_refl _) (Nat.zero_le _) l hlf ByteArray.empty
  have he : ByteArray.empty ++ tailT l = tailT l := ByteArray.empty_append
  have h0 : ByteArray.empty.size = 0 := rfl
  rw [he, h0] at h1
  have hlt : lexB (tailT l) = .ok (moved l (blankAt l 0)) := by rw [lexB, if_neg (by omega)]; exact h1
  obtain ⟨m1, m2⟩ := moved_get (l := l) (at_ := blankAt l 0) (blankAt_length l 0).symm
  have hR : (pairs (fun i k => ∃ (j : Nat) (t : Tk), l[j]? = some t ∧ t.at_ = i ∧ (blankAt l 0)[j]? = some k)).R l (moved l (blankAt l 0)) := by
    refine ⟨⟨hT.ne, hT.fin⟩, m1.symm, fun i t t' ht ht' => ?_⟩
    obtain ⟨e1, e2⟩ := m2 i t t' ht ht'
    rw [e1]
    exact ⟨rfl, rfl, rfl, i, t, ht, rfl, by rw [← e1]; exact e2⟩
  rw [parseB_items hl, parseB_items hlt, m1]
  rcases RP.items (l.length + 1) (s := .zero) (s' := .zero) rfl l _ hR with ⟨x, us1, y, us2, e1, e2, e3, _⟩ | ⟨e, i, k, e1, e2, j, t, e3, e4, e5⟩
  · exact .inl ⟨x, y, by rw [e1]; rfl, by rw [e2]; rfl, e3⟩
  · exact .inr ⟨e, i, k, j, t, by rw [e1]; rfl, by rw [e2]; rfl, e3, e4, e5⟩
end Go.Proofs.YtjoiflokekebkaaGreatDoor
end
