/- Texts of this claim in one file: Pa, Pm, Pr, Pq, P1, P2. -/
import Derived.Test.YtjoiflokekebkaaGreatDoorM1
set_option linter.all false
section
/- Plain: the reader of sources, over lists of tokens. -/
namespace Go.Proofs.YtjoiflokekebkaaGreatDoor

/-! ### What is read -/
inductive Ty where
  | mk (k : Int) (n : ByteArray) (l : List Ty)
structure Fld where
  n : ByteArray
  t : Ty
structure Str where
  n : ByteArray
  drop : Bool
  fs : List Fld
  at_ : Int
structure Enm where
  n : ByteArray
  vs : List Fld
  at_ : Int
structure Plc where
  n : ByteArray
  p : List ByteArray
structure Opr where
  num : Bool
  n : Int
  p : Plc
structure Rvl where
  k : Int
  ops : List Opr
  p : Plc
  n : ByteArray
  v : ByteArray
mutual
inductive Stm where
  | mk (k at_ : Int) (n : ByteArray) (t : Ty) (p : Plc) (rv : Rvl) (op : Opr) (th el : List Stm) (arms : List Arm)
inductive Arm where
  | mk (v b : ByteArray) (body : List Stm)
end
structure Fnc where
  n : ByteArray
  ps : List Fld
  b : List Stm
  at_ : Int
structure Src where
  ss : List Str
  es : List Enm
  fs : List Fnc

abbrev noB : ByteArray := ⟨#[]⟩
def Ty.zero : Ty := .mk 0 noB []
def Plc.zero : Plc := ⟨noB, []⟩
def Opr.zero : Opr := ⟨false, 0, .zero⟩
def Rvl.zero : Rvl := ⟨0, [], .zero, noB, noB⟩
def Src.zero : Src := ⟨[], [], []⟩

/-! ### Reading: what is read, and the tokens behind; or what is wrong, and where -/
abbrev Ps (α : Type) := List Tk → Except (Int × Int) (α × List Tk)
section
variable {α β : Type}
def Ps.ret (x : α) : Ps α := fun ts => .ok (x, ts)
def Ps.bd (p : Ps α) (f : α → Ps β) : Ps β := fun ts => match p ts with
  | .error e => .error e
  | .ok (x, ts') => f x ts'
theorem Ps.bd_ok {p : Ps α} {f : α → Ps β} {ts ts' : List Tk} {x : α} (h : p ts = .ok (x, ts')) : p.bd f ts = f x ts' := by simp only [Ps.bd, h]
theorem Ps.bd_err {p : Ps α} {f : α → Ps β} {ts : List Tk} {e : Int × Int} (h : p ts = .error e) : p.bd f ts = .error e := by simp only [Ps.bd, h]
end
def hd (ts : List Tk) : Tk := ts.headD ⟨0, noB, 0, 0⟩
def stp {α : Type} (e : Int) : Ps α := fun ts => .error (e, (hd ts).at_)
def isW (s : ByteArray) (ts : List Tk) : Bool := (decide ((hd ts).k = 1) || decide ((hd ts).k = 3)) && ((hd ts).s.toList == s.toList)
def opt (s : ByteArray) : Ps Bool := fun ts => if isW s ts = true then .ok (true, ts.tail) else .ok (false, ts)
def must (s : ByteArray) : Ps Unit := fun ts => if isW s ts = true then .ok ((), ts.tail) else .error (60, (hd ts).at_)
def namedB (g : Bool) (t : Tk) : Bool := decide (t.k = 1) && !resB t.s && (upperB t.s.data.toList == g)
def name (g : Bool) : Ps ByteArray := fun ts => if namedB g (hd ts) = true then .ok ((hd ts).s, ts.tail) else .error (60, (hd ts).at_)
section
variable {α : Type}
/-- If a word is there it is taken, and p goes on; else q. -/
def optE (s : ByteArray) (p q : Ps α) : Ps α := fun ts => if isW s ts = true then p ts.tail else q ts
theorem optE_t {s : ByteArray} {p q : Ps α} {ts : List Tk} (h : isW s ts = true) : optE s p q ts = p ts.tail := by rw [optE, if_pos h]
theorem optE_f {s : ByteArray} {p q : Ps α} {ts : List Tk} (h : isW s ts = false) : optE s p q ts = q ts := by rw [optE, if_neg (by rw [h]; decide)]
/-- Things with commas ahead, up to a sign. -/
def moreP (fin : ByteArray) (read : Ps α) : Nat → Ps (List α)
  | 0 => stp 60
  | n + 1 => optE (⟨#[44]⟩ : ByteArray) (read.bd fun x => (moreP fin read n).bd fun l => .ret (x :: l)) ((must fin).bd fun _ => .ret [])
def listP (fin : ByteArray) (read : Ps α) : Ps (List α) := optE fin (.ret []) (read.bd fun x => fun ts => (moreP fin read (ts.length + 1)).bd (fun l => .ret (x :: l)) ts)
end
def tyP : Nat → Ps Ty
  | 0 => stp 61
  | k + 1 => optE (⟨#[105, 110, 116]⟩ : ByteArray) (.ret (.mk 1 noB [])) (optE (⟨#[99, 111]⟩ : ByteArray) ((name false).bd fun n => .ret (.mk 7 n [])) (optE (⟨#[98, 111, 120]⟩ : ByteArray) ((tyP k).bd fun t => .ret (.mk 4 noB [t]))
      (optE (⟨#[38]⟩ : ByteArray) (optE (⟨#[109, 117, 116]⟩ : ByteArray) ((tyP k).bd fun t => .ret (.mk 6 noB [t])) ((tyP k).bd fun t => .ret (.mk 5 noB [t]))) ((name true).bd fun n => .ret (.mk 2 n [])))))
def fieldP : Ps Fld := (name false).bd fun n => (must (⟨#[58]⟩ : ByteArray)).bd fun _ => (tyP 61).bd fun t => .ret ⟨n, t⟩
def variantP : Ps Fld := (name true).bd fun n => optE (⟨#[40]⟩ : ByteArray) ((tyP 61).bd fun t => (must (⟨#[41]⟩ : ByteArray)).bd fun _ => .ret ⟨n, t⟩) (.ret ⟨n, .zero⟩)
def stepsP : Nat → Ps (List ByteArray)
  | 0 => stp 60
  | n + 1 => optE (⟨#[46]⟩ : ByteArray) (optE (⟨#[42]⟩ : ByteArray) ((stepsP n).bd fun l => .ret (noB :: l)) ((name false).bd fun x => (stepsP n).bd fun l => .ret (x :: l))) (.ret [])
def placeP : Ps Plc := (name false).bd fun n => fun ts => (stepsP (ts.length + 1)).bd (fun l => .ret ⟨n, l⟩) ts
def bareP : Ps Plc := (name false).bd fun n => .ret ⟨n, []⟩
/-- A number that stands there; else q. -/
def numE {α : Type} (p : Int → Ps α) (q : Ps α) : Ps α := fun ts => if (hd ts).k = 2 then p (hd ts).n ts.tail else q ts
def operP : Ps Opr := optE (⟨#[45]⟩ : ByteArray) (numE (fun n => .ret ⟨true, -n, .zero⟩) (stp 60)) (numE (fun n => .ret ⟨true, n, .zero⟩) (placeP.bd fun p => .ret ⟨false, 0, p⟩))
def argsP : Ps (List Opr) := (must (⟨#[40]⟩ : ByteArray)).bd fun _ => listP (⟨#[41]⟩ : ByteArray) operP
/-- If a great name stands there; else q. -/
def greatE {α : Type} (p q : Ps α) : Ps α := fun ts => if namedB true (hd ts) = true then p ts else q ts
def madeP : Ps Rvl := (name true).bd fun n => optE (⟨#[58, 58]⟩ : ByteArray)
  ((name true).bd fun v => optE (⟨#[40]⟩ : ByteArray) (operP.bd fun o => (must (⟨#[41]⟩ : ByteArray)).bd fun _ => .ret ⟨11, [o], .zero, n, v⟩) (.ret ⟨11, [], .zero, n, v⟩))
  (argsP.bd fun l => .ret ⟨10, l, .zero, n, noB⟩)
def signE (a : Opr) (k : Int) : Ps Rvl := operP.bd fun b => .ret ⟨k, [a, b], .zero, noB, noB⟩
def setP : Ps Rvl :=
  optE (⟨#[38]⟩ : ByteArray) (optE (⟨#[109, 117, 116]⟩ : ByteArray) (placeP.bd fun p => .ret ⟨7, [], p, noB, noB⟩) (placeP.bd fun p => .ret ⟨6, [], p, noB, noB⟩)) <|
  optE (⟨#[98, 111, 120]⟩ : ByteArray) (operP.bd fun o => .ret ⟨8, [o], .zero, noB, noB⟩) <|
  optE (⟨#[119, 97, 105, 116]⟩ : ByteArray) (operP.bd fun o => .ret ⟨15, [o], .zero, noB, noB⟩) <|
  optE (⟨#[117, 110, 98, 111, 120]⟩ : ByteArray) (bareP.bd fun p => .ret ⟨9, [], p, noB, noB⟩) <|
  optE (⟨#[97, 119, 97, 105, 116]⟩ : ByteArray) (bareP.bd fun p => .ret ⟨13, [], p, noB, noB⟩) <|
  optE (⟨#[112, 111, 108, 108]⟩ : ByteArray) (bareP.bd fun p => .ret ⟨14, [], p, noB, noB⟩) <|
  optE (⟨#[115, 116, 97, 114, 116]⟩ : ByteArray) ((name false).bd fun n => argsP.bd fun l => .ret ⟨12, l, .zero, n, noB⟩) <|
  greatE madeP <|
  operP.bd fun a => optE (⟨#[43]⟩ : ByteArray) (signE a 1) <| optE (⟨#[45]⟩ : ByteArray) (signE a 2) <| optE (⟨#[42]⟩ : ByteArray) (signE a 3) <| optE (⟨#[60]⟩ : ByteArray) (signE a 4) <| optE (⟨#[61, 61]⟩ : ByteArray) (signE a 5) (.ret ⟨0, [a], .zero, noB, noB⟩)
section
variable (blk : Ps (List Stm))
def armP : Ps Arm := (name true).bd fun v => optE (⟨#[40]⟩ : ByteArray)
  ((name false).bd fun b => (must (⟨#[41]⟩ : ByteArray)).bd fun _ => (must (⟨#[61, 62]⟩ : ByteArray)).bd fun _ => blk.bd fun l => .ret (.mk v b l))
  ((must (⟨#[61, 62]⟩ : ByteArray)).bd fun _ => blk.bd fun l => .ret (.mk v noB l))
def armsP : Nat → Ps (List Arm)
  | 0 => stp 60
  | n + 1 => optE (⟨#[125]⟩ : ByteArray) (.ret []) ((armP blk).bd fun a => (armsP n).bd fun l => .ret (a :: l))
/-- A statement that has none in it, but for what ends it. -/
def simpleP (at_ : Int) : Ps Stm :=
  optE (⟨#[108, 101, 116]⟩ : ByteArray) ((name false).bd fun n => (must (⟨#[58]⟩ : ByteArray)).bd fun _ => (tyP 61).bd fun t => (must (⟨#[61]⟩ : ByteArray)).bd fun _ => setP.bd fun r => .ret (.mk 0 at_ n t .zero r .zero [] [] [])) <|
  optE (⟨#[121, 105, 101, 108, 100]⟩ : ByteArray) (operP.bd fun o => .ret (.mk 5 at_ noB .zero .zero .zero o [] [] [])) <|
  optE (⟨#[114, 101, 116, 117, 114, 110]⟩ : ByteArray) (operP.bd fun o => .ret (.mk 6 at_ noB .zero .zero .zero o [] [] [])) <|
  optE (⟨#[112, 114, 105, 110, 116]⟩ : ByteArray) (operP.bd fun o => .ret (.mk 7 at_ noB .zero .zero .zero o [] [] [])) <|
  optE (⟨#[100, 114, 111, 112]⟩ : ByteArray) (bareP.bd fun p => .ret (.mk 8 at_ noB .zero p .zero .zero [] [] [])) <|
  placeP.bd fun p => (must (⟨#[61]⟩ : ByteArray)).bd fun _ => setP.bd fun r => .ret (.mk 1 at_ noB .zero p r .zero [] [] [])
/-- A statement, as of where it stands. -/
def stmtQ (at_ : Int) : Ps Stm :=
  optE (⟨#[105, 102]⟩ : ByteArray) (operP.bd fun o => blk.bd fun l => optE (⟨#[101, 108, 115, 101]⟩ : ByteArray) (blk.bd fun m => .ret (.mk 2 at_ noB .zero .zero .zero o l m [])) (.ret (.mk 2 at_ noB .zero .zero .zero o l [] []))) <|
  optE (⟨#[119, 104, 105, 108, 101]⟩ : ByteArray) (operP.bd fun o => blk.bd fun l => .ret (.mk 3 at_ noB .zero .zero .zero o l [] [])) <|
  optE (⟨#[109, 97, 116, 99, 104]⟩ : ByteArray) (bareP.bd fun p => (must (⟨#[123]⟩ : ByteArray)).bd fun _ => fun us => (armsP blk (us.length + 1)).bd (fun l => .ret (.mk 4 at_ noB .zero p .zero .zero [] [] l)) us) <|
  (simpleP at_).bd fun s => (must (⟨#[59]⟩ : ByteArray)).bd fun _ => .ret s
def stmtP : Ps Stm := fun ts => stmtQ blk (hd ts).at_ ts
def stmtsP : Nat → Ps (List Stm)
  | 0 => stp 60
  | n + 1 => optE (⟨#[125]⟩ : ByteArray) (.ret []) ((stmtP blk).bd fun s => (stmtsP n).bd fun l => .ret (s :: l))
end
/-- A block, in so many others less than 61. -/
def blockP : Nat → Ps (List Stm)
  | 0 => fun ts => if isW (⟨#[123]⟩ : ByteArray) ts = true then .error (61, (hd ts).at_) else .error (60, (hd ts).at_)
  | k + 1 => (must (⟨#[123]⟩ : ByteArray)).bd fun _ => fun ts => stmtsP (blockP k) (ts.length + 1) ts
def structP (drop : Bool) (at_ : Int) : Ps Str := (must (⟨#[115, 116, 114, 117, 99, 116]⟩ : ByteArray)).bd fun _ => (name true).bd fun n => (must (⟨#[123]⟩ : ByteArray)).bd fun _ => (listP (⟨#[125]⟩ : ByteArray) fieldP).bd fun l => .ret ⟨n, drop, l, at_⟩
def enumP (at_ : Int) : Ps Enm := (name true).bd fun n => (must (⟨#[123]⟩ : ByteArray)).bd fun _ => (listP (⟨#[125]⟩ : ByteArray) variantP).bd fun l => .ret ⟨n, l, at_⟩
def fnP (at_ : Int) : Ps Fnc := (must (⟨#[99, 111]⟩ : ByteArray)).bd fun _ => (name false).bd fun n => (must (⟨#[40]⟩ : ByteArray)).bd fun _ => (listP (⟨#[41]⟩ : ByteArray) fieldP).bd fun l => (blockP 60).bd fun b => .ret ⟨n, l, b, at_⟩
/-- An item, as of where it stands, into a source. -/
def itemQ (s : Src) (at_ : Int) : Ps Src :=
  optE (⟨#[100, 114, 111, 112]⟩ : ByteArray) ((structP true at_).bd fun x => .ret { s with ss := s.ss ++ [x] })
    (fun us => if isW (⟨#[115, 116, 114, 117, 99, 116]⟩ : ByteArray) us = true then (structP false at_).bd (fun x => .ret { s with ss := s.ss ++ [x] }) us
      else optE (⟨#[101, 110, 117, 109]⟩ : ByteArray) ((enumP at_).bd fun x => .ret { s with es := s.es ++ [x] }) ((fnP at_).bd fun x => .ret { s with fs := s.fs ++ [x] }) us)
def itemP (s : Src) : Ps Src := fun ts => itemQ s (hd ts).at_ ts
def itemsP : Nat → Src → Ps Src
  | 0, _ => stp 60
  | n + 1, s => fun ts => if (hd ts).k = 0 then .ok (s, ts) else (itemP s).bd (itemsP n) ts
/-- A source of a text, or what is wrong, and where. -/
def parseB (t : ByteArray) : Except (Int × Int) Src := match lexB t with
  | .error e => .error (e.1, (e.2 : Int))
  | .ok l => match itemsP (l.length + 1) .zero l with
    | .error e => .error e
    | .ok (s, _) => .ok s
end Go.Proofs.YtjoiflokekebkaaGreatDoor
end

section
/- Trees in memory: what a cell leads to. -/
namespace Go.Proofs.YtjoiflokekebkaaGreatDoor
open Go.RowKit

/-- What a cell leads to: a plain value, or a row of so many elements of sz cells each. -/
inductive D where
  | v (x : Value)
  | row (e : TypeId) (sz : Nat) (l : List (List D))

/-- The cell u leads to d; ok is so of all blocks on the way, and no row's own block is in it. -/
inductive Rd (W : World) : (Nat → Prop) → Value → D → Prop
  | v {ok : Nat → Prop} (x : Value) : Rd W ok x (.v x)
  | row {ok : Nat → Prop} {e : TypeId} {sz : Nat} {u : Value} {l : List (List D)} {xs : List Value} (ho : W.ownsRow 0 e sz u l.length xs)
      (hk : ∀ k, u.ownBlock = some k → ok k) (hl : ∀ (i : Nat) (ds : List D), l[i]? = some ds → ds.length = sz)
      (hr : ∀ (i : Nat) (ds : List D) (j : Nat) (d : D), l[i]? = some ds → ds[j]? = some d → Rd W (fun k => ok k ∧ u.ownBlock ≠ some k) (xs.getD (i * sz + j) .nilIface) d) : Rd W ok u (.row e sz l)
/-- Cells, one by one. -/
def Rds (W : World) (ok : Nat → Prop) : List Value → List D → Prop
  | [], [] => True
  | u :: us, d :: ds => Rd W ok u d ∧ Rds W ok us ds
  | _, _ => False
section
variable {W W' : World} {ok ok' : Nat → Prop} {u : Value} {d : D} {us us' : List Value} {ds ds' : List D}
theorem Rd.mono (h : Rd W ok u d) (hok : ∀ k, ok k → ok' k) : Rd W ok' u d := by
  induction h generalizing ok' with
  | v x => exact .v x
  | row ho hk hl _ ih => exact .row ho (fun k e => hok k (hk k e)) hl (fun i ds j d h1 h2 => ih i ds j d h1 h2 (fun k hk => ⟨hok k hk.1, hk.2⟩))
theorem Rd.bound (h : Rd W ok u d) : Rd W (fun k => ok k ∧ k < W.heap.size) u d := by
  induction h with
  | v x => exact .v x
  | row ho hk hl _ ih => exact .row ho (fun k e => ⟨hk k e, blk_lt (row_lt ho k e).2.choose_spec⟩) hl (fun i ds j d h1 h2 => (ih i ds j d h1 h2).mono (fun k hk => ⟨⟨hk.1.1, hk.2⟩, hk.1.2⟩))
theorem Rd.move (h : Rd W ok u d) (hm : ∀ k, ok k → W'.heap[k]? = W.heap[k]?) : Rd W' ok u d := by
  induction h with
  | v x => exact .v x
  | row ho hk hl _ ih => exact .row (row_move ho (fun k e => hm k (hk k e))) hk hl (fun i ds j d h1 h2 => ih i ds j d h1 h2 (fun k hk => hm k hk.1))
theorem Rd.step (h : Rd W ok u d) (hm : ∀ k, ok k → k < W.heap.size → W'.heap[k]? = W.heap[k]?) : Rd W' ok u d := (h.bound.move (fun k hk => hm k hk.1 hk.2)).mono (fun _ hk => hk.1)
theorem Rd.bel (h : Rd W ok u d) (hb : Below W.heap.size W W') : Rd W' ok u d := h.step (fun k _ hk => hb.block k hk)
theorem Rd.grown (h : Rd W ok u d) {row : Option Nat} (hg : W.grownBy W' row) (hne : ∀ k, ok k → row ≠ some k) : Rd W' ok u d := h.step (fun k ho hk => hg.block k hk (fun e => hne k ho e.symm))
theorem Rd.far (h : Rd W ok u d) {p : Addr} (hok : ∀ k, ok k → k ≠ p.block) (x : Value) : Rd (W.setCell p x) ok u d := h.step (fun k ho _ => Below.heap_setCell W p x k (hok k ho))
theorem Rd.nil (W : World) (ok : Nat → Prop) (e : TypeId) (sz : Nat) : Rd W ok (.slice none 0 0) (.row e sz []) :=
  .row (xs := []) (W.ownsRow_nil 0 e sz) (fun k hk => by simp [Value.ownBlock] at hk) (fun i ds h => by simp at h) (fun i ds j d h => by simp at h)
theorem Rds.mono : ∀ {us : List Value} {ds : List D}, Rds W ok us ds → (∀ k, ok k → ok' k) → Rds W ok' us ds
  | [], [], _, _ => trivial
  | _ :: _, _ :: _, h, hok => ⟨h.1.mono hok, Rds.mono h.2 hok⟩
  | [], _ :: _, h, _ => h.elim
  | _ :: _, [], h, _ => h.elim
theorem Rds.step : ∀ {us : List Value} {ds : List D}, Rds W ok us ds → (∀ k, ok k → k < W.heap.size → W'.heap[k]? = W.heap[k]?) → Rds W' ok us ds
  | [], [], _, _ => trivial
  | _ :: _, _ :: _, h, hm => ⟨h.1.step hm, Rds.step h.2 hm⟩
  | [], _ :: _, h, _ => h.elim
  | _ :: _, [], h, _ => h.elim
theorem Rds.below (h : Rds W ok us ds) (hb : Below W.heap.size W W') : Rds W' ok us ds := h.step (fun k _ hk => hb.block k hk)
theorem Rds.grown (h : Rds W ok us ds) {row : Option Nat} (hg : W.grownBy W' row) (hne : ∀ k, ok k → row ≠ some k) : Rds W' ok us ds := h.step (fun k ho hk => hg.block k hk (fun e => hne k ho e.symm))
theorem Rds.far (h : Rds W ok us ds) {p : Addr} (hok : ∀ k, ok k → k ≠ p.block) (x : Value) : Rds (W.setCell p x) ok us ds := h.step (fun k ho _ => Below.heap_setCell W p x k (hok k ho))
theorem Rds.length : ∀ {us : List Value} {ds : List D}, Rds W ok us ds → us.length = ds.length
  | [], [], _ => rfl
  | _ :: _, _ :: _, h => by simp [Rds.length h.2]
  | [], _ :: _, h => h.elim
  | _ :: _, [], h => h.elim
theorem Rds.get : ∀ {us : List Value} {ds : List D}, Rds W ok us ds → ∀ (j : Nat) (d : D), ds[j]? = some d → Rd W ok (us.getD j .nilIface) d
  | [], [], _, j, d, hd => by simp at hd
  | _ :: _, _ :: _, h, 0, d, hd => by simp at hd; subst hd; exact h.1
  | _ :: us, _ :: ds, h, j + 1, d, hd => by simpa using Rds.get h.2 j d (by simpa using hd)
  | [], _ :: _, h, _, _, _ => h.elim
  | _ :: _, [], h, _, _, _ => h.elim
theorem Rds.app : ∀ {us us' : List Value} {ds ds' : List D}, Rds W ok us ds → Rds W ok us' ds' → Rds W ok (us ++ us') (ds ++ ds')
  | [], _, [], _, _, h => h
  | _ :: _, _, _ :: _, _, h, h' => ⟨h.1, Rds.app h.2 h'⟩
  | [], _, _ :: _, _, h, _ => h.elim
  | _ :: _, _, [], _, h, _ => h.elim
theorem Rds.of_get : ∀ {us : List Value} {ds : List D}, us.length = ds.length → (∀ (j : Nat) (d : D), ds[j]? = some d → Rd W ok (us.getD j .nilIface) d) → Rds W ok us ds
  | [], [], _, _ => trivial
  | u :: us, d :: ds, hl, h => ⟨h 0 d rfl, Rds.of_get (by simpa using hl) (fun j d hd => by simpa using h (j + 1) d (by simpa using hd))⟩
  | [], _ :: _, hl, _ => by simp at hl
  | _ :: _, [], hl, _ => by simp at hl
end

/-! ### Rows that are made, and grow -/
theorem getD_app_left {α : Type} {a b : List α} {i : Nat} {x : α} (h : i < a.length) : (a ++ b).getD i x = a.getD i x := by
  simp [List.getD_eq_getElem?_getD, List.getElem?_append_left h]
theorem getD_app_right {α : Type} {a b : List α} {i : Nat} {x : α} : (a ++ b).getD (a.length + i) x = b.getD i x := by
  rw [List.getD_eq_getElem?_getD, List.getD_eq_getElem?_getD, List.getElem?_append_right (by omega), Nat.add_sub_cancel_left]
section
variable {W W1 : World} {ok okp : Nat → Prop} {e : TypeId} {sz : Nat} {u u1 : Value} {l : List (List D)} {cs : List Value} {ds : List D}
/-- A row's own block, and its kind. -/
theorem Rd.owns (h : Rd W ok u (.row e sz l)) : ∃ xs, W.ownsRow 0 e sz u l.length xs ∧ (∀ k, u.ownBlock = some k → ok k) := by
  cases h with
  | row ho hk hl hr => exact ⟨_, ho, hk⟩
theorem Rd.slice (h : Rd W ok u (.row e sz l)) : ∃ A c, u = .slice A l.length c := by
  obtain ⟨xs, ho, _⟩ := h.owns
  exact row_slice ho
theorem Rd.lit (W : World) {e : TypeId} {sz : Nat} (hc : Rds W okp cs ds) (hs : ds.length = sz) (hok : ∀ k, W.heap.size ≤ k → ok k) (hokp : ∀ k, okp k → ok k) :
    Rd (W.alloc (.cells cs.toArray e)) ok (.slice (some ⟨W.heap.size, 0, none⟩) 1 1) (.row e sz [ds]) := by
  have hl := hc.length
  have ho : (W.alloc (.cells cs.toArray e)).ownsRow 0 e sz (.slice (some ⟨W.heap.size, 0, none⟩) 1 1) [ds].length cs := by
    have h := World.ownsRow_lit (base := 0) (e := e) (size := sz) W cs.toArray 1 (Nat.zero_le _) (by simp [maxLen]) (by simp; omega)
    simpa using h
  refine .row ho (fun k hk => ?_) (fun i ds' h => ?_) (fun i ds' j d h1 h2 => ?_)
  · simp [Value.ownBlock] at hk
    exact hok k (by omega)
  · cases i with
    | zero => simp at h; subst h; exact hs
    | succ i => simp at h
  · cases i with
    | zero =>
      simp at h1
      subst h1
      rw [Nat.zero_mul, Nat.zero_add]
      have h3 := (hc.below ((Below.refl W.heap.size W).alloc (Nat.le_refl _) (.cells cs.toArray e))).get j d h2
      have h4 : Rd (W.alloc (.cells cs.toArray e)) (fun k => okp k ∧ k < W.heap.size) (cs.getD j .nilIface) d := by
        have := (hc.get j d h2).bound.bel ((Below.refl W.heap.size W).alloc (Nat.le_refl _) (.cells cs.toArray e))
        exact this
      exact h4.mono (fun k hk => ⟨hokp k hk.1, by simp [Value.ownBlock]; omega⟩)
    | succ i => simp at h1
theorem Rd.grow (h : Rd W ok u (.row e sz l)) (hc : Rds W okp cs ds) (hs : ds.length = sz) (hfresh : ∀ k, W.heap.size ≤ k → ok k) (hokp : ∀ k, okp k → ok k ∧ u.ownBlock ≠ some k)
    (hrun : ∀ xs : List Value, W.ownsRow 0 e sz u l.length xs → W1.ownsRow 0 e sz u1 (l.length + 1) (xs ++ cs)) (hg : W.grownBy W1 u.ownBlock) (hat : u1.ownBlock = u.ownBlock ∨ ∃ b, u1.ownBlock = some b ∧ W.heap.size ≤ b) :
    Rd W1 ok u1 (.row e sz (l ++ [ds])) := by
  have hcl := hc.length
  cases h with
  | @row _ _ _ _ _ xs ho hk hl hr =>
    have hown := hrun xs ho
    have hxl : xs.length = l.length * sz := ho.1
    have hne : ∀ k, k < W.heap.size → u.ownBlock ≠ some k → u1.ownBlock ≠ some k := fun k hlt hn => by
      rcases hat with h | ⟨b, h, hb⟩
      · rw [h]; exact hn
      · rw [h]; intro q; injection q with q; omega
    refine .row (xs := xs ++ cs) (by simpa using hown) (fun k e1 => ?_) (fun i ds' h1 => ?_) (fun i ds' j d h1 h2 => ?_)
    · rcases hat with h | ⟨b, h, hb⟩
      · exact hk k (h ▸ e1)
      · rw [h] at e1; injection e1 with e1; exact hfresh k (by omega)
    · by_cases hi : i < l.length
      · rw [List.getElem?_append_left hi] at h1; exact hl i ds' h1
      · have hie : i = l.length := by have := (List.getElem?_eq_some_iff.1 h1).1; simp at this; omega
        subst hie; simp at h1; subst h1; exact hs
    · by_cases hi : i < l.length
      · rw [List.getElem?_append_left hi] at h1
        have hj : j < sz := by rw [← hl i ds' h1]; exact (List.getElem?_eq_some_iff.1 h2).1
        have hlt : i * sz + j < xs.length := by
          rw [hxl]
          calc i * sz + j < i * sz + sz := by omega
            _ = (i + 1) * sz := by rw [Nat.add_mul, Nat.one_mul]
            _ ≤ l.length * sz := Nat.mul_le_mul_right _ (by omega)
        rw [getD_app_left hlt]
        have h3 := (hr i ds' j d h1 h2).bound
        exact (h3.grown hg (fun k hk e1 => hk.1.2 (by rw [e1]))).mono (fun k hk => ⟨hk.1.1, hne k hk.2 hk.1.2⟩)
      · have hie : i = l.length := by have := (List.getElem?_eq_some_iff.1 h1).1; simp at this; omega
        subst hie
        simp at h1
        subst h1
        rw [← hxl, getD_app_right]
        have h3 := (hc.get j d h2).bound
        exact (h3.grown hg (fun k hk e1 => (hokp k hk.1).2 e1)).mono (fun k hk => ⟨(hokp k hk.1).1, hne k hk.2 (hokp k hk.1).2⟩)
end
section
variable {P : Program} {ops : Array Oper} {rest : List Oper} {o : Oper} {a : Act} {Q : Exit → Act → World → Prop} {Q' : Exit → Act → World → Prop} {Kc : Act → World → Prop}
theorem Rd.run_append {W : World} {ok okp : Nat → Prop} {e : TypeId} {sz : Nat} {u : Value} {l : List (List D)} {cs : List Value} {ds : List D} (t ty : TypeId) (z : Value) (bytes : Nat)
    (ht : P.underlying t = some (.slice e)) (hinfo : (P.info? e).map (fun i => (i.zero, i.size, i.bytes)) = some (some z, sz, bytes)) (hz : z.cells.size = sz) (hs0 : 0 < sz) (hb0 : 0 < bytes)
    (h : Rd W ok u (.row e sz l)) (hc : Rds W okp cs ds) (hs : ds.length = sz) (hfresh : ∀ k, W.heap.size ≤ k → ok k) (hokp : ∀ k, okp k → ok k ∧ u.ownBlock ≠ some k) (h1 : ∀ x ∈ cs, x.oneCell' = true)
    (hl : (l.length + 1) * bytes ≤ 140737488355328) :
    ∃ u1 W1, (Builtin.append_ #[t, t] ty #[u, .slice (some ⟨W.heap.size, 0, none⟩) 1 1]).run P (W.alloc (.cells cs.toArray e)) = .ok u1 W1 ∧ Rd W1 ok u1 (.row e sz (l ++ [ds])) ∧ W.grownBy W1 u.ownBlock ∧
      (u1.ownBlock = u.ownBlock ∨ ∃ b, u1.ownBlock = some b ∧ W.heap.size ≤ b) := by
  obtain ⟨xs, ho, _⟩ := h.owns
  obtain ⟨i0, hi, hzz⟩ := Option.map_eq_some_iff.1 hinfo
  simp only [Prod.mk.injEq] at hzz
  obtain ⟨hz0, hz1, hz2⟩ := hzz
  have hlen : l.length + 1 ≤ 140737488355328 := Nat.le_trans (Nat.le_mul_of_pos_right _ hb0) hl
  have hcl := hc.length
  have key : ∀ xs : List Value, W.ownsRow 0 e sz u l.length xs → ∃ u1 W1, (Builtin.append_ #[t, t] ty #[u, .slice (some ⟨W.heap.size, 0, none⟩) 1 1]).run P (W.alloc (.cells cs.toArray e)) = .ok u1 W1 ∧ W1.ownsRow 0 e sz u1 (l.length + 1) (xs ++ cs) ∧ (W.alloc (.cells cs.toArray e)).grownBy W1 u.ownBlock ∧ (u1.ownBlock = u.ownBlock ∨ u1.ownBlock = some (W.alloc (.cells cs.toArray e)).heap.size) := fun xs ho => by
    obtain ⟨v1, w1, hr, hown, hg, _, hat⟩ := run_append_own_at (P := P) (W.alloc (.cells cs.toArray e)) 0 t ty e i0 z sz bytes ht hi hz0 hz1 hz2 hz hs0 u l.length xs (ho.alloc _) ⟨W.heap.size, 0, none⟩ 1 1 cs (by omega)
      (cell_row rfl cs e) h1 (by simp only [maxLen]; omega) hl (Nat.zero_le _)
    exact ⟨v1, w1, hr, hown, hg, hat⟩
  obtain ⟨u1, W1, hr, hown, hg, hat⟩ := key xs ho
  have hg' : W.grownBy W1 u.ownBlock := World.grownBy.trans (World.grownBy_alloc W _ _) hg
  have hat' : u1.ownBlock = u.ownBlock ∨ ∃ b, u1.ownBlock = some b ∧ W.heap.size ≤ b := by
    rcases hat with hat | hat
    · exact .inl hat
    · exact .inr ⟨_, hat, by simp⟩
  refine ⟨u1, W1, hr, h.grow hc hs hfresh hokp (fun xs' ho' => ?_) hg' hat', hg', hat'⟩
  obtain ⟨u2, W2, hr2, hown2, _⟩ := key xs' ho'
  rw [hr] at hr2
  injection hr2 with e1 e2
  subst e1 e2
  exact hown2
theorem Rd.append_at {W : World} {ok okp : Nat → Prop} {e : TypeId} {sz : Nat} {u : Value} {l : List (List D)} {cs : List Value} {ds : List D} (hgd : o.guard = none) (s x : Operand) (t : TypeId) (z : Value) (bytes : Nat)
    (ho : o.op = .call { callee := .builtin .append, args := #[s, x], argTypes := #[t, t] })
    (ht : P.underlying t = some (.slice e)) (hinfo : (P.info? e).map (fun i => (i.zero, i.size, i.bytes)) = some (some z, sz, bytes)) (hz : z.cells.size = sz) (hs0 : 0 < sz) (hb0 : 0 < bytes)
    (hs : a.eval s = u) (hx : a.eval x = .slice (some ⟨W.heap.size, 0, none⟩) 1 1)
    (h : Rd W ok u (.row e sz l)) (hc : Rds W okp cs ds) (hds : ds.length = sz) (hfresh : ∀ k, W.heap.size ≤ k → ok k) (hokp : ∀ k, okp k → ok k ∧ u.ownBlock ≠ some k) (h1 : ∀ x ∈ cs, x.oneCell' = true)
    (hl : (l.length + 1) * bytes ≤ 140737488355328)
    (hk : ∀ u1 W1, Rd W1 ok u1 (.row e sz (l ++ [ds])) → W.grownBy W1 u.ownBlock → (u1.ownBlock = u.ownBlock ∨ ∃ b, u1.ownBlock = some b ∧ W.heap.size ≤ b) → wpList P ops Q rest (a.put o.dst u1) W1) :
    wpList P ops Q (o :: rest) a (W.alloc (.cells cs.toArray e)) := by
  refine wpList_plain hgd fun K hK => ?_
  obtain ⟨u1, W1, hr, h2, h3, h4⟩ := Rd.run_append (P := P) t o.type z bytes ht hinfo hz hs0 hb0 h hc hds hfresh hokp h1 hl
  unfold Oper.wp execOp
  simp only [ho, resolve, invoke, builtin, Sem.run_bind, Sem.run_pure, Result.andThen_ok, List.map_toArray, List.map_cons, List.map_nil, hs, hx, hr]
  exact hK _ _ (hk u1 W1 h2 h3 h4)
end
end Go.Proofs.YtjoiflokekebkaaGreatDoor
end

section
/- The reader of tokens in memory, and what is read of them. -/
namespace Go.Proofs.YtjoiflokekebkaaGreatDoor
open Go.RowKit

/-! ### What is read, as cells -/
mutual
def Ty.d : Ty → List D
  | .mk k n l => [.v (.int .i64 k), .v (.string n), .row 37 3 (Ty.ds l)]
def Ty.ds : List Ty → List (List D)
  | [] => []
  | t :: l => t.d :: Ty.ds l
end
def Fld.d (f : Fld) : List D := .v (.string f.n) :: f.t.d
def Str.d (x : Str) : List D := [.v (.string x.n), .v (.bool x.drop), .row 79 4 (x.fs.map Fld.d), .v (.int .i64 x.at_)]
def Enm.d (x : Enm) : List D := [.v (.string x.n), .row 86 4 (x.vs.map Fld.d), .v (.int .i64 x.at_)]
def stepD (s : ByteArray) : List D := [.v (.string s)]
def Plc.d (p : Plc) : List D := [.v (.string p.n), .row 104 1 (p.p.map stepD)]
def Opr.d (o : Opr) : List D := .v (.bool o.num) :: .v (.int .i64 o.n) :: o.p.d
def Rvl.d (r : Rvl) : List D := .v (.int .i64 r.k) :: .row 53 4 (r.ops.map Opr.d) :: (r.p.d ++ [.v (.string r.n), .v (.string r.v)])
mutual
def Stm.d : Stm → List D
  | .mk k at_ n t p rv op th el arms => .v (.int .i64 k) :: .v (.int .i64 at_) :: .v (.string n) :: (t.d ++ (p.d ++ (rv.d ++ (op.d ++ [.row 60 21 (Stm.ds th), .row 60 21 (Stm.ds el), .row 95 3 (Arm.ds arms)]))))
def Stm.ds : List Stm → List (List D)
  | [] => []
  | s :: l => s.d :: Stm.ds l
def Arm.d : Arm → List D
  | .mk v b l => [.v (.string v), .v (.string b), .row 60 21 (Stm.ds l)]
def Arm.ds : List Arm → List (List D)
  | [] => []
  | a :: l => a.d :: Arm.ds l
end
def Fnc.d (f : Fnc) : List D := [.v (.string f.n), .row 79 4 (f.ps.map Fld.d), .row 60 21 (Stm.ds f.b), .v (.int .i64 f.at_)]
def Src.d (s : Src) : List D := [.row 75 4 (s.ss.map Str.d), .row 85 3 (s.es.map Enm.d), .row 50 4 (s.fs.map Fnc.d)]
theorem Ty.ds_app (a b : List Ty) : Ty.ds (a ++ b) = Ty.ds a ++ Ty.ds b := by
  induction a with
  | nil => simp [Ty.ds]
  | cons x a ih => simp [Ty.ds, ih]
theorem Stm.ds_app (a b : List Stm) : Stm.ds (a ++ b) = Stm.ds a ++ Stm.ds b := by
  induction a with
  | nil => simp [Stm.ds]
  | cons x a ih => simp [Stm.ds, ih]
theorem Arm.ds_app (a b : List Arm) : Arm.ds (a ++ b) = Arm.ds a ++ Arm.ds b := by
  induction a with
  | nil => simp [Arm.ds]
  | cons x a ih => simp [Arm.ds, ih]
theorem Stm.ds_length (a : List Stm) : (Stm.ds a).length = a.length := by
  induction a with
  | nil => simp [Stm.ds]
  | cons x a ih => simp [Stm.ds, ih]
theorem Arm.ds_length (a : List Arm) : (Arm.ds a).length = a.length := by
  induction a with
  | nil => simp [Arm.ds]
  | cons x a ih => simp [Arm.ds, ih]

/-! ### The reader -/
/-- Tokens stand at block T, from o on. -/
def TokAt (W : World) (T o : Nat) (ts : List Tk) : Prop := ∀ (i : Nat) (t : Tk), ts[i]? = some t →
  W.cell? ⟨T, o + i * 4, none⟩ = some (.int .i64 t.k) ∧ W.cell? ⟨T, o + i * 4 + 1, none⟩ = some (.string t.s) ∧ W.cell? ⟨T, o + i * 4 + 2, none⟩ = some (.int .i64 t.n) ∧ W.cell? ⟨T, o + i * 4 + 3, none⟩ = some (.int .i64 t.at_)
/-- Tokens that a text has: the last one, and it alone, is the end. -/
structure Toks (ts : List Tk) : Prop where
  ne : ts ≠ []
  fin : ∀ (i : Nat) (t : Tk), ts[i]? = some t → t.k ≠ 0 → i + 1 < ts.length
  num : ∀ t ∈ ts, -9223372036854775807 ≤ t.n ∧ t.n ≤ 9223372036854775807
  len : ts.length ≤ 100000
  txt : ∀ t ∈ ts, t.s.size ≤ 1000000
theorem Toks.tail {ts : List Tk} (h : Toks ts) (hk : (hd ts).k ≠ 0) : Toks ts.tail := by
  obtain ⟨h1, h2, h3, h4, h5⟩ := h
  cases ts with
  | nil => exact absurd rfl h1
  | cons t r =>
    have := h2 0 t rfl hk
    refine ⟨by intro e; subst e; simp at this, fun i x hx hx0 => ?_, fun x hx => h3 x (by simp at hx; exact List.mem_cons_of_mem _ hx), by simp at h4 ⊢; omega, fun x hx => h5 x (by simp at hx; exact List.mem_cons_of_mem _ hx)⟩
    have := h2 (i + 1) x (by simpa using hx) hx0
    simp at this ⊢
    omega
/-- The reader at block R has these tokens left. -/
structure Rdr (W : World) (R : Nat) (ts : List Tk) : Prop where
  ex : ∃ T o c, W.heap[R]? = some (.cells #[.slice (some ⟨T, o, none⟩) ts.length c] 113 (0, 0)) ∧ T < R ∧ ts.length ≤ c ∧ TokAt W T o ts
  ok : Toks ts
section
variable {W W' : World} {R : Nat} {ts : List Tk}
theorem Rdr.lt (h : Rdr W R ts) : R < W.heap.size := by
  obtain ⟨T, o, c, h, _⟩ := h.ex
  exact blk_lt h
theorem Rdr.below (h : Rdr W R ts) {B : Nat} (hb : Below B W W') (hB : R < B) : Rdr W' R ts := by
  have hlt := h.lt
  obtain ⟨⟨T, o, c, h1, h2, h3, h4⟩, h5⟩ := h
  refine ⟨⟨T, o, c, (hb.block R hB).trans h1, h2, h3, fun i t ht => ?_⟩, h5⟩
  have hc : ∀ j, W'.cell? ⟨T, j, none⟩ = W.cell? ⟨T, j, none⟩ := fun j => hb.cell (p := ⟨T, j, none⟩) (by show T < B; omega)
  rw [hc, hc, hc, hc]
  exact h4 i t ht
theorem Rdr.far (h : Rdr W R ts) {p : Addr} (hp : R < p.block) (u : Value) : Rdr (W.setCell p u) R ts := h.below (B := R + 1) ((Below.refl (R + 1) W).setCell (by omega) u) (by omega)
end
/-- What a method of the reader does: it hands back what is read, or stops. -/
def Does {α : Type} (p : Ps α) (Q : World → Value → α → Prop) (W : World) (R : Nat) (ts : List Tk) (e : Ending) (W' : World) : Prop :=
  W.grownBy W' (some R) ∧ ((∃ x ts' v, p ts = .ok (x, ts') ∧ e = .returned v ∧ Q W' v x ∧ Rdr W' R ts' ∧ ts'.length ≤ ts.length) ∨
    (∃ er at_, p ts = .error (er, at_) ∧ e = .panicked [{ v := .iface 115 (.agg #[.int .i64 er, .int .i64 at_]), recovered := false }]))
/-- What is handed back leads to x; all of it is new. -/
def Leads {α : Type} (W : World) (f : α → List D) (W' : World) (v : Value) (x : α) : Prop := ∃ cs : List Value, v = .agg cs.toArray ∧ Rds W' (fun k => W.heap.size ≤ k) cs (f x)
end Go.Proofs.YtjoiflokekebkaaGreatDoor
end

section
/- Plain: a reader leaves no more tokens than there were; what takes one leaves less. -/
namespace Go.Proofs.YtjoiflokekebkaaGreatDoor

section
variable {α β : Type}
/-- What is left is of the tokens' end. -/
def Le (p : Ps α) : Prop := ∀ (ts : List Tk) (x : α) (ts' : List Tk), p ts = .ok (x, ts') → ts' <:+ ts
def Lt (p : Ps α) : Prop := ∀ (ts : List Tk) (x : α) (ts' : List Tk), p ts = .ok (x, ts') → ts' <:+ ts ∧ ts'.length < ts.length
theorem isW_pos {s : ByteArray} {ts : List Tk} (h : isW s ts = true) : ts.tail.length < ts.length := by
  cases ts with
  | nil => simp [isW, hd] at h
  | cons t r => simp
theorem named_pos {g : Bool} {ts : List Tk} (h : namedB g (hd ts) = true) : ts.tail.length < ts.length := by
  cases ts with
  | nil => simp [namedB, hd] at h
  | cons t r => simp
theorem Le.len {p : Ps α} (h : Le p) {ts : List Tk} {x : α} {ts' : List Tk} (e : p ts = .ok (x, ts')) : ts'.length ≤ ts.length := (h ts x ts' e).length_le
theorem Lt.le {p : Ps α} (h : Lt p) : Le p := fun ts x ts' e => (h ts x ts' e).1
theorem Le.ret (x : α) : Le (Ps.ret x) := fun ts y ts' e => by injection e with e; injection e with _ e; rw [e]; exact List.suffix_refl _
theorem Le.stp (e : Int) : Le (stp e : Ps α) := fun ts y ts' h => by cases h
theorem Lt.stp (e : Int) : Lt (stp e : Ps α) := fun ts y ts' h => by cases h
theorem bd_split {p : Ps α} {f : α → Ps β} {ts ts' : List Tk} {y : β} (h : p.bd f ts = .ok (y, ts')) : ∃ x us, p ts = .ok (x, us) ∧ f x us = .ok (y, ts') := by
  unfold Ps.bd at h
  split at h
  · cases h
  · rename_i x us hx
    exact ⟨x, us, hx, h⟩
theorem Le.bd {p : Ps α} {f : α → Ps β} (hp : Le p) (hf : ∀ x, Le (f x)) : Le (p.bd f) := fun ts y ts' h => by
  obtain ⟨x, us, h1, h2⟩ := bd_split h
  exact (hf x _ _ _ h2).trans (hp _ _ _ h1)
theorem Lt.bd {p : Ps α} {f : α → Ps β} (hp : Lt p) (hf : ∀ x, Le (f x)) : Lt (p.bd f) := fun ts y ts' h => by
  obtain ⟨x, us, h1, h2⟩ := bd_split h
  have h3 := hp _ _ _ h1
  have h4 := hf x _ _ _ h2
  exact ⟨h4.trans h3.1, Nat.lt_of_le_of_lt h4.length_le h3.2⟩
theorem Lt.bd2 {p : Ps α} {f : α → Ps β} (hp : Le p) (hf : ∀ x, Lt (f x)) : Lt (p.bd f) := fun ts y ts' h => by
  obtain ⟨x, us, h1, h2⟩ := bd_split h
  have h3 := hp _ _ _ h1
  have h4 := hf x _ _ _ h2
  exact ⟨h4.1.trans h3, Nat.lt_of_lt_of_le h4.2 h3.length_le⟩
theorem suf_tail {ts us : List Tk} (h : us <:+ ts.tail) (hp : ts.tail.length < ts.length) : us <:+ ts ∧ us.length < ts.length := ⟨h.trans (List.tail_suffix ts), Nat.lt_of_le_of_lt h.length_le hp⟩
theorem Le.optE {s : ByteArray} {p q : Ps α} (hp : Le p) (hq : Le q) : Le (optE s p q) := fun ts y ts' h => by
  unfold Go.Proofs.YtjoiflokekebkaaGreatDoor.optE at h
  split at h
  · rename_i hw
    exact (suf_tail (hp _ _ _ h) (isW_pos hw)).1
  · exact hq _ _ _ h
theorem Lt.optE {s : ByteArray} {p q : Ps α} (hp : Le p) (hq : Lt q) : Lt (optE s p q) := fun ts y ts' h => by
  unfold Go.Proofs.YtjoiflokekebkaaGreatDoor.optE at h
  split at h
  · rename_i hw
    exact suf_tail (hp _ _ _ h) (isW_pos hw)
  · exact hq _ _ _ h
theorem Lt.must (s : ByteArray) : Lt (must s) := fun ts y ts' h => by
  unfold Go.Proofs.YtjoiflokekebkaaGreatDoor.must at h
  split at h
  · rename_i hw
    injection h with h
    injection h with _ h
    rw [← h]
    exact suf_tail (List.suffix_refl _) (isW_pos hw)
  · cases h
theorem Lt.name (g : Bool) : Lt (name g) := fun ts y ts' h => by
  unfold Go.Proofs.YtjoiflokekebkaaGreatDoor.name at h
  split at h
  · rename_i hw
    injection h with h
    injection h with _ h
    rw [← h]
    exact suf_tail (List.suffix_refl _) (named_pos hw)
  · cases h
theorem Le.more {fin : ByteArray} {read : Ps α} (hr : Le read) : ∀ n, Le (moreP fin read n)
  | 0 => Le.stp _
  | n + 1 => Le.optE (Le.bd hr fun _ => Le.bd (Le.more hr n) fun _ => Le.ret _) (Le.bd (Lt.must _).le fun _ => Le.ret _)
theorem Le.at_ {f : List Tk → Ps α} (h : ∀ us, Le (f us)) : Le (fun ts => f ts ts) := fun ts y ts' e => h ts ts y ts' e
theorem Lt.at_ {f : List Tk → Ps α} (h : ∀ us, Lt (f us)) : Lt (fun ts => f ts ts) := fun ts y ts' e => h ts ts y ts' e
theorem Lt.more {fin : ByteArray} {read : Ps α} (hr : Le read) : ∀ n, Lt (moreP fin read n)
  | 0 => Lt.stp _
  | n + 1 => Lt.optE (Le.bd hr fun _ => Le.bd (Le.more hr n) fun _ => Le.ret _) (Lt.bd (Lt.must _) fun _ => Le.ret _)
theorem Lt.list {fin : ByteArray} {read : Ps α} (hr : Le read) : Lt (listP fin read) :=
  Lt.optE (Le.ret _) (Lt.bd2 hr fun _ => Lt.at_ (f := fun us => (moreP fin read (us.length + 1)).bd _) fun us => Lt.bd (Lt.more hr _) fun _ => Le.ret _)
theorem two_pos {ts : List Tk} (h : (hd ts).k = 2) : ts.tail.length < ts.length := by
  cases ts with
  | nil => simp [hd] at h
  | cons t r => simp
theorem Le.numE {p : Int → Ps α} {q : Ps α} (hp : ∀ n, Le (p n)) (hq : Le q) : Le (numE p q) := fun ts y ts' h => by
  unfold Go.Proofs.YtjoiflokekebkaaGreatDoor.numE at h
  split at h
  · rename_i hk
    exact (suf_tail (hp _ _ _ _ h) (two_pos hk)).1
  · exact hq _ _ _ h
theorem Lt.numE {p : Int → Ps α} {q : Ps α} (hp : ∀ n, Le (p n)) (hq : Lt q) : Lt (numE p q) := fun ts y ts' h => by
  unfold Go.Proofs.YtjoiflokekebkaaGreatDoor.numE at h
  split at h
  · rename_i hk
    exact suf_tail (hp _ _ _ _ h) (two_pos hk)
  · exact hq _ _ _ h
theorem Le.greatE {p q : Ps α} (hp : Le p) (hq : Le q) : Le (greatE p q) := fun ts y ts' h => by
  unfold Go.Proofs.YtjoiflokekebkaaGreatDoor.greatE at h
  split at h
  · exact hp _ _ _ h
  · exact hq _ _ _ h
theorem Lt.greatE {p q : Ps α} (hp : Lt p) (hq : Lt q) : Lt (greatE p q) := fun ts y ts' h => by
  unfold Go.Proofs.YtjoiflokekebkaaGreatDoor.greatE at h
  split at h
  · exact hp _ _ _ h
  · exact hq _ _ _ h
end
theorem Lt.ty : ∀ k, Lt (tyP k)
  | 0 => Lt.stp _
  | k + 1 => Lt.optE (Le.ret _) (Lt.optE (Le.bd (Lt.name _).le fun _ => Le.ret _) (Lt.optE (Le.bd (Lt.ty k).le fun _ => Le.ret _)
      (Lt.optE (Le.optE (Le.bd (Lt.ty k).le fun _ => Le.ret _) (Le.bd (Lt.ty k).le fun _ => Le.ret _)) (Lt.bd (Lt.name _) fun _ => Le.ret _))))
theorem Lt.field : Lt fieldP := Lt.bd (Lt.name _) fun _ => Le.bd (Lt.must _).le fun _ => Le.bd (Lt.ty _).le fun _ => Le.ret _
theorem Lt.variant : Lt variantP := Lt.bd (Lt.name _) fun _ => Le.optE (Le.bd (Lt.ty _).le fun _ => Le.bd (Lt.must _).le fun _ => Le.ret _) (Le.ret _)
theorem Le.steps : ∀ n, Le (stepsP n)
  | 0 => Le.stp _
  | n + 1 => Le.optE (Le.optE (Le.bd (Le.steps n) fun _ => Le.ret _) (Le.bd (Lt.name _).le fun _ => Le.bd (Le.steps n) fun _ => Le.ret _)) (Le.ret _)
theorem Lt.place : Lt placeP := Lt.bd (Lt.name _) fun _ => Le.at_ (f := fun us => (stepsP (us.length + 1)).bd _) fun us => Le.bd (Le.steps _) fun _ => Le.ret _
theorem Lt.bare : Lt bareP := Lt.bd (Lt.name _) fun _ => Le.ret _
theorem Lt.oper : Lt operP := Lt.optE (Le.numE (fun _ => Le.ret _) (Le.stp _)) (Lt.numE (fun _ => Le.ret _) (Lt.bd Lt.place fun _ => Le.ret _))
theorem Lt.args : Lt argsP := Lt.bd (Lt.must _) fun _ => (Lt.list Lt.oper.le).le
theorem Lt.made : Lt madeP := Lt.bd (Lt.name _) fun _ => Le.optE (Le.bd (Lt.name _).le fun _ => Le.optE (Le.bd Lt.oper.le fun _ => Le.bd (Lt.must _).le fun _ => Le.ret _) (Le.ret _)) (Le.bd Lt.args.le fun _ => Le.ret _)
theorem Le.sign (a : Opr) (k : Int) : Le (signE a k) := Le.bd Lt.oper.le fun _ => Le.ret _
theorem Lt.set : Lt setP :=
  Lt.optE (Le.optE (Le.bd Lt.place.le fun _ => Le.ret _) (Le.bd Lt.place.le fun _ => Le.ret _)) <| Lt.optE (Le.bd Lt.oper.le fun _ => Le.ret _) <| Lt.optE (Le.bd Lt.oper.le fun _ => Le.ret _) <|
  Lt.optE (Le.bd Lt.bare.le fun _ => Le.ret _) <| Lt.optE (Le.bd Lt.bare.le fun _ => Le.ret _) <| Lt.optE (Le.bd Lt.bare.le fun _ => Le.ret _) <|
  Lt.optE (Le.bd (Lt.name _).le fun _ => Le.bd Lt.args.le fun _ => Le.ret _) <| Lt.greatE Lt.made <|
  Lt.bd Lt.oper fun _ => Le.optE (Le.sign _ _) <| Le.optE (Le.sign _ _) <| Le.optE (Le.sign _ _) <| Le.optE (Le.sign _ _) <| Le.optE (Le.sign _ _) (Le.ret _)
section
variable {blk : Ps (List Stm)} (hb : Le blk)
include hb
theorem Lt.arm : Lt (armP blk) := Lt.bd (Lt.name _) fun _ => Le.optE (Le.bd (Lt.name _).le fun _ => Le.bd (Lt.must _).le fun _ => Le.bd (Lt.must _).le fun _ => Le.bd hb fun _ => Le.ret _) (Le.bd (Lt.must _).le fun _ => Le.bd hb fun _ => Le.ret _)
theorem Le.arms : ∀ n, Le (armsP blk n)
  | 0 => Le.stp _
  | n + 1 => Le.optE (Le.ret _) (Le.bd (Lt.arm hb).le fun _ => Le.bd (Le.arms n) fun _ => Le.ret _)
omit hb in
theorem Lt.simple (a : Int) : Lt (simpleP a) :=
  Lt.optE (Le.bd (Lt.name _).le fun _ => Le.bd (Lt.must _).le fun _ => Le.bd (Lt.ty _).le fun _ => Le.bd (Lt.must _).le fun _ => Le.bd Lt.set.le fun _ => Le.ret _) <|
  Lt.optE (Le.bd Lt.oper.le fun _ => Le.ret _) <| Lt.optE (Le.bd Lt.oper.le fun _ => Le.ret _) <| Lt.optE (Le.bd Lt.oper.le fun _ => Le.ret _) <| Lt.optE (Le.bd Lt.bare.le fun _ => Le.ret _) <|
  Lt.bd Lt.place fun _ => Le.bd (Lt.must _).le fun _ => Le.bd Lt.set.le fun _ => Le.ret _
theorem Lt.stmtQ (a : Int) : Lt (stmtQ blk a) :=
  Lt.optE (Le.bd Lt.oper.le fun _ => Le.bd hb fun _ => Le.optE (Le.bd hb fun _ => Le.ret _) (Le.ret _)) <|
  Lt.optE (Le.bd Lt.oper.le fun _ => Le.bd hb fun _ => Le.ret _) <|
  Lt.optE (Le.bd Lt.bare.le fun _ => Le.bd (Lt.must _).le fun _ => Le.at_ (f := fun us => (armsP blk (us.length + 1)).bd _) fun us => Le.bd (Le.arms hb _) fun _ => Le.ret _) <|
  Lt.bd (Lt.simple _) fun _ => Le.bd (Lt.must _).le fun _ => Le.ret _
theorem Lt.stmt : Lt (stmtP blk) := fun ts x ts' h => Lt.stmtQ hb (hd ts).at_ ts x ts' h
theorem Le.stmts : ∀ n, Le (stmtsP blk n)
  | 0 => Le.stp _
  | n + 1 => Le.optE (Le.ret _) (Le.bd (Lt.stmt hb).le fun _ => Le.bd (Le.stmts n) fun _ => Le.ret _)
end
theorem Le.block : ∀ k, Le (blockP k)
  | 0 => fun ts y ts' h => by
    simp only [blockP] at h
    split at h <;> cases h
  | k + 1 => Le.bd (Lt.must _).le fun _ => Le.at_ (f := fun us => stmtsP (blockP k) (us.length + 1)) fun us => Le.stmts (Le.block k) _
theorem Lt.struct (d : Bool) (a : Int) : Lt (structP d a) := Lt.bd (Lt.must _) fun _ => Le.bd (Lt.name _).le fun _ => Le.bd (Lt.must _).le fun _ => Le.bd (Lt.list Lt.field.le).le fun _ => Le.ret _
theorem Lt.enum (a : Int) : Lt (enumP a) := Lt.bd (Lt.name _) fun _ => Le.bd (Lt.must _).le fun _ => Le.bd (Lt.list Lt.variant.le).le fun _ => Le.ret _
theorem Lt.fn (a : Int) : Lt (fnP a) := Lt.bd (Lt.must _) fun _ => Le.bd (Lt.name _).le fun _ => Le.bd (Lt.must _).le fun _ => Le.bd (Lt.list Lt.field.le).le fun _ => Le.bd (Le.block _) fun _ => Le.ret _
theorem Lt.itemQ (s : Src) (a : Int) : Lt (itemQ s a) := Lt.optE (Le.bd (Lt.struct _ _).le fun _ => Le.ret _) fun us y us' h => by
  split at h
  · exact Lt.bd (Lt.struct _ _) (fun _ => Le.ret _) us y us' h
  · exact Lt.optE (Le.bd (Lt.enum _).le fun _ => Le.ret _) (Lt.bd (Lt.fn _) fun _ => Le.ret _) us y us' h
theorem Lt.item (s : Src) : Lt (itemP s) := fun ts x ts' h => Lt.itemQ s (hd ts).at_ ts x ts' h
end Go.Proofs.YtjoiflokekebkaaGreatDoor
end

section
/- The tokens of a text: what the laws say of them, in plain Lean. -/
namespace Go.Proofs.YtjoiflokekebkaaGreatDoor

theorem bsize (s : ByteArray) : s.data.toList.length = s.size := Array.length_toList

/-- From here to there nothing but what is passed. -/
inductive Skips (s : ByteArray) : Nat → Nat → Prop
  | here {a : Nat} : Skips s a a
  | step {a n p : Nat} : a < s.size → piece (s.data.toList.drop a) = .skip n → Skips s (a + n) p → Skips s a p
theorem Skips.le {s : ByteArray} {a p : Nat} (h : Skips s a p) : a ≤ p := by
  induction h with
  | here => exact Nat.le_refl _
  | step _ _ _ ih => omega

theorem piece_len {s : ByteArray} {a n : Nat} (h : n ≤ (s.data.toList.drop a).length) (ha : a ≤ s.size) : a + n ≤ s.size := by
  rw [List.length_drop, bsize] at h
  omega

theorem from_head (s : ByteArray) : ∀ (k a : Nat), s.size - a ≤ k → a ≤ s.size → ∀ l, lexFrom s a = .ok l → ∃ p t r, l = t :: r ∧ Skips s a p ∧ p ≤ s.size ∧
    ((p = s.size ∧ t = ⟨0, ⟨#[]⟩, 0, s.size⟩ ∧ r = []) ∨ (∃ k n v, p < s.size ∧ piece (s.data.toList.drop p) = .tok k n v ∧ p + n ≤ s.size ∧ 0 < n ∧ t = ⟨k, s.extract p (p + n), v, p⟩ ∧ lexFrom s (p + n) = .ok r)) := by
  intro k
  induction k with
  | zero =>
    intro a hk ha l hl
    rw [lex_end (by omega)] at hl
    injection hl with hl
    exact ⟨s.size, _, _, hl.symm, by rw [show s.size = a by omega]; exact .here, Nat.le_refl _, .inl ⟨rfl, rfl, rfl⟩⟩
  | succ k ih =>
    intro a hk ha l hl
    by_cases hlt : a < s.size
    · cases hp : piece (s.data.toList.drop a) with
      | skip n =>
        have hn := piece_skip hp
        have hn2 := piece_len hn.2 ha
        rw [lex_skip hlt hp] at hl
        obtain ⟨p, t, r, h1, h2, h3⟩ := ih (a + n) (by omega) hn2 l hl
        exact ⟨p, t, r, h1, .step hlt hp h2, h3⟩
      | tok kd n v =>
        have hn := piece_tok hp
        have hn2 := piece_len hn.2 ha
        rw [lex_tok hlt hp] at hl
        cases hr : lexFrom s (a + n) with
        | error e => rw [hr] at hl; cases hl
        | ok r =>
          rw [hr] at hl
          injection hl with hl
          exact ⟨a, _, r, hl.symm, .here, ha, .inr ⟨kd, n, v, hlt, hp, hn2, hn.1, rfl, hr⟩⟩
      | bad e => rw [lex_bad hlt hp] at hl; cases hl
    · rw [lex_end hlt] at hl
      injection hl with hl
      exact ⟨s.size, _, _, hl.symm, by rw [show s.size = a by omega]; exact .here, Nat.le_refl _, .inl ⟨rfl, rfl, rfl⟩⟩
theorem from_ne {s : ByteArray} {a : Nat} {l : List Tk} (h : lexFrom s a = .ok l) : l ≠ [] := by
  by_cases ha : a ≤ s.size
  · obtain ⟨p, t, r, rfl, _⟩ := from_head s _ a (Nat.le_refl _) ha l h
    simp
  · rw [lex_end (by omega)] at h
    injection h with h
    rw [← h]; simp

/-! Cut off, and glued. -/
theorem run_take {p : UInt8 → Bool} {l : List UInt8} {m : Nat} (h : run p l ≤ m) : run p (l.take m) = run p l := by
  induction l generalizing m with
  | nil => simp
  | cons c l ih =>
    cases hc : p c
    · rw [run_zero hc]
      cases m with
      | zero => rfl
      | succ m => rw [List.take_succ_cons, run_zero hc]
    · have e : ∀ l, run p (c :: l) = run p l + 1 := fun l => by simp [run, List.takeWhile, hc]
      rw [e] at h ⊢
      obtain ⟨m, rfl⟩ : ∃ k, m = k + 1 := ⟨m - 1, by omega⟩
      rw [List.take_succ_cons, e, ih (by omega)]
theorem run_nl {p : UInt8 → Bool} (hp : p 10 = false) (l r : List UInt8) : run p (l ++ 10 :: r) = run p l := by
  induction l with
  | nil => rw [List.nil_append, run_zero hp]; rfl
  | cons c l ih =>
    cases hc : p c
    · rw [List.cons_append, run_zero hc, run_zero hc]
    · have e : ∀ l, run p (c :: l) = run p l + 1 := fun l => by simp [run, List.takeWhile, hc]
      rw [List.cons_append, e, e, ih]
theorem passed_take {l : List UInt8} {n m : Nat} (h : passedN l = n) (h0 : 0 < n) (hm : n ≤ m) : passedN (l.take m) = n := by
  unfold passedN at h
  split at h
  · rename_i hp
    have hpp := List.isPrefixOf_iff_prefix.1 hp
    obtain ⟨r, rfl⟩ := hpp
    have e : ∀ l, run notNl (47 :: l) = run notNl l + 1 := fun l => by simp [run, List.takeWhile, notNl]
    have h2 : run notNl (47 :: 47 :: r) = n := h
    have h3 := h2
    rw [e, e] at h3
    obtain ⟨m, rfl⟩ : ∃ k, m = k + 2 := ⟨m - 2, by omega⟩
    have ht : ([47, 47] ++ r).take (m + 2) = 47 :: 47 :: r.take m := rfl
    unfold passedN
    rw [ht, if_pos (by simp [Lib.hasPrefix]), ← ht, run_take (by rw [h]; exact hm)]
    exact h
  · split at h
    · rename_i hp hb
      cases l with
      | nil => simp at hb
      | cons c l =>
        obtain ⟨m, rfl⟩ : ∃ k, m = k + 1 := ⟨m - 1, by omega⟩
        rw [List.take_succ_cons, passedN, if_neg, if_pos (by simpa using hb)]
        · exact h
        · intro q
          simp [Lib.hasPrefix] at q hb
          rcases q with ⟨rfl, _⟩
          simp at hb
    · omega
theorem piece_passed {l : List UInt8} {n : Nat} (h : piece l = .skip n) : passedN l = n ∧ 0 < n := by
  unfold piece at h
  split at h
  · injection h with h
    omega
  · exact absurd h (next_noskip _ _)
theorem piece_take {l : List UInt8} {n m : Nat} (h : piece l = .skip n) (hm : n ≤ m) : piece (l.take m) = .skip n := by
  obtain ⟨h1, h2⟩ := piece_passed h
  have := passed_take h1 h2 hm
  rw [piece, this, if_pos h2]

theorem prefix_nl {l r : List UInt8} {a b : UInt8} (h : l ≠ []) (hb : b ≠ 10) : Lib.hasPrefix (l ++ 10 :: r) [a, b] = Lib.hasPrefix l [a, b] := by
  match l, h with
  | [c], _ => simp [Lib.hasPrefix, List.isPrefixOf, hb]
  | c :: d :: t, _ => simp [Lib.hasPrefix, List.isPrefixOf]
theorem piece_nl {l : List UInt8} (h : l ≠ []) (r : List UInt8) : piece (l ++ 10 :: r) = piece l := by
  have hh : (l ++ 10 :: r).head? = l.head? := by cases l with | nil => exact absurd rfl h | cons c l => rfl
  have h1 : passedN (l ++ 10 :: r) = passedN l := by
    unfold passedN
    rw [prefix_nl h (by decide), hh, run_nl (by decide)]
  have h2 : signLen (l ++ 10 :: r) = signLen l := by
    unfold signLen
    rw [hh]
    have : (twoSigns.any fun p => Lib.hasPrefix (l ++ 10 :: r) p) = (twoSigns.any fun p => Lib.hasPrefix l p) := by
      simp only [twoSigns, List.any_cons, List.any_nil]
      rw [prefix_nl h (by decide), prefix_nl h (by decide), prefix_nl h (by decide), prefix_nl h (by decide)]
    rw [this]
  have h3 : nextP (l ++ 10 :: r) = nextP l := by
    match l, h with
    | c :: t, _ =>
      have e1 : run isI (c :: (t ++ 10 :: r)) = run isI (c :: t) := run_nl (by decide) (c :: t) r
      have e2 : run isD (c :: (t ++ 10 :: r)) = run isD (c :: t) := run_nl (by decide) (c :: t) r
      have e3 : (c :: (t ++ 10 :: r)).take (run isD (c :: t)) = (c :: t).take (run isD (c :: t)) := List.take_append_of_le_length (l₁ := c :: t) (run_le _ _)
      have e4 : signLen (c :: (t ++ 10 :: r)) = signLen (c :: t) := h2
      simp only [nextP, List.cons_append, e1, e2, e3, e4]
  unfold piece
  rw [h1, h3]

def shiftT (k : Nat) (t : Tk) : Tk := { t with at_ := t.at_ + k }
theorem ext_right (c b : ByteArray) (i j : Nat) : (c ++ b).extract (c.size + i) (c.size + j) = b.extract i j := by
  apply bytes_eq
  simp
theorem ext_left (c b : ByteArray) (i j : Nat) (hj : j ≤ c.size) : (c ++ b).extract i j = c.extract i j := by
  have e : (c ++ b).data.toList = c.data.toList ++ b.data.toList := ByteArray.toList_data_append
  have hz := bsize c
  have hz2 : c.data.size = c.size := rfl
  apply bytes_eq
  simp
  omega
def shiftE (k : Nat) : Except (Int × Nat) (List Tk) → Except (Int × Nat) (List Tk)
  | .ok l => .ok (l.map (shiftT k))
  | .error (e, i) => .error (e, k + i)
theorem lex_shift (c b : ByteArray) : ∀ m y, b.size - y ≤ m → y ≤ b.size → lexFrom (c ++ b) (c.size + y) = shiftE c.size (lexFrom b y) := by
  intro m
  have hsz : (c ++ b).size = c.size + b.size := ByteArray.size_append
  have hdr : ∀ y, (c ++ b).data.toList.drop (c.size + y) = b.data.toList.drop y := fun y => by
    have hz := bsize c
    rw [ByteArray.toList_data_append, ← hz, List.drop_append, List.drop_of_length_le (by omega)]
    simp
  have hend : lexFrom (c ++ b) (c.size + b.size) = shiftE c.size (lexFrom b b.size) := by
    rw [lex_end (by omega), lex_end (by omega), hsz]
    simp [shiftE, shiftT]
    omega
  induction m with
  | zero =>
    intro y hy hle
    obtain rfl : y = b.size := by omega
    exact hend
  | succ m ih =>
    intro y hy hle
    by_cases hlt : y < b.size
    · have hlt2 : c.size + y < (c ++ b).size := by omega
      cases hp : piece (b.data.toList.drop y) with
      | skip n =>
        have hn := piece_skip hp
        have hn2 := piece_len hn.2 hle
        rw [lex_skip hlt hp, lex_skip hlt2 (by rw [hdr]; exact hp), Nat.add_assoc, ih (y + n) (by omega) hn2]
      | tok kd n v =>
        have hn := piece_tok hp
        have hn2 := piece_len hn.2 hle
        rw [lex_tok hlt hp, lex_tok hlt2 (by rw [hdr]; exact hp), Nat.add_assoc, ih (y + n) (by omega) hn2, ext_right]
        cases lexFrom b (y + n) with
        | ok l => simp [Except.map, shiftE, shiftT]; omega
        | error e => rfl
      | bad e => rw [lex_bad hlt hp, lex_bad hlt2 (by rw [hdr]; exact hp)]; rfl
    · obtain rfl : y = b.size := by omega
      exact hend

def nlB : ByteArray := ⟨#[10]⟩
def glueE (k : Nat) : Except (Int × Nat) (List Tk) → Except (Int × Nat) (List Tk) → Except (Int × Nat) (List Tk)
  | .error e, _ => .error e
  | .ok _, .error (e, i) => .error (e, k + i)
  | .ok l, .ok y => .ok (l.dropLast ++ y.map (shiftT k))
theorem lex_glue (a b : ByteArray) : ∀ m x, a.size - x ≤ m → x ≤ a.size → lexFrom (a ++ nlB ++ b) x = glueE (a.size + 1) (lexFrom a x) (lexFrom b 0) := by
  intro m
  have hnl : nlB.size = 1 := rfl
  have hsz1 : (a ++ nlB).size = a.size + 1 := by rw [ByteArray.size_append, hnl]
  have hsz : (a ++ nlB ++ b).size = a.size + 1 + b.size := by rw [ByteArray.size_append, hsz1]
  have hdr : ∀ x, x ≤ a.size → (a ++ nlB ++ b).data.toList.drop x = a.data.toList.drop x ++ 10 :: b.data.toList := fun x hx => by
    have hz := bsize a
    rw [ByteArray.toList_data_append, ByteArray.toList_data_append, List.append_assoc, List.drop_append_of_le_length (by omega)]
    rfl
  have hend : lexFrom (a ++ nlB ++ b) a.size = glueE (a.size + 1) (lexFrom a a.size) (lexFrom b 0) := by
    have hp : piece ((a ++ nlB ++ b).data.toList.drop a.size) = .skip 1 := by
      rw [hdr _ (Nat.le_refl _), List.drop_of_length_le (by rw [bsize]; omega), List.nil_append]
      have hp : passedN (10 :: b.data.toList) = 1 := by simp [passedN, Lib.hasPrefix]
      rw [piece, hp, if_pos (by omega)]
    have h0 := lex_shift (a ++ nlB) b _ 0 (Nat.le_refl _) (Nat.zero_le _)
    rw [hsz1, Nat.add_zero] at h0
    rw [lex_skip (by omega) hp, h0, lex_end (s := a) (by omega)]
    cases lexFrom b 0 with
    | ok l => rfl
    | error e => rfl
  induction m with
  | zero =>
    intro x hx hle
    obtain rfl : x = a.size := by omega
    exact hend
  | succ m ih =>
    intro x hx hle
    by_cases hlt : x < a.size
    · have hlt2 : x < (a ++ nlB ++ b).size := by omega
      have hne : a.data.toList.drop x ≠ [] := fun q => by
        have := congrArg List.length q
        rw [List.length_drop, bsize] at this
        simp at this
        omega
      have hpp := piece_nl hne b.data.toList
      rw [← hdr x hle] at hpp
      cases hp : piece (a.data.toList.drop x) with
      | skip n =>
        have hn := piece_skip hp
        have hn2 := piece_len hn.2 hle
        rw [lex_skip hlt hp, lex_skip hlt2 (hpp.trans hp), ih (x + n) (by omega) hn2]
      | tok kd n v =>
        have hn := piece_tok hp
        have hn2 := piece_len hn.2 hle
        rw [lex_tok hlt hp, lex_tok hlt2 (hpp.trans hp), ih (x + n) (by omega) hn2, ext_left _ _ _ _ (by omega), ext_left _ _ _ _ hn2]
        cases hr : lexFrom a (x + n) with
        | ok l =>
          have hl := from_ne hr
          cases lexFrom b 0 with
          | ok y => simp [Except.map, glueE, List.dropLast_cons_of_ne_nil hl]
          | error e => rfl
        | error e => rfl
      | bad e => rw [lex_bad hlt hp, lex_bad hlt2 (hpp.trans hp)]; rfl
    · obtain rfl : x = a.size := by omega
      exact hend
theorem lexB_glue {a b : ByteArray} (ha : a.size ≤ 2000) (hb : b.size ≤ 2000) : lexB (a ++ nlB ++ b) = glueE (a.size + 1) (lexB a) (lexB b) := by
  have hsz : (a ++ nlB ++ b).size = a.size + 1 + b.size := by rw [ByteArray.size_append, ByteArray.size_append]; rfl
  rw [lexB, lexB, lexB, if_neg (by omega), if_neg (by omega), if_neg (by omega)]
  exact lex_glue a b _ 0 (Nat.le_refl _) (Nat.zero_le _)

/-- What is between two tokens has, by itself, no token. -/
theorem skips_lex (s : ByteArray) (a p : Nat) (hp : p ≤ s.size) {x : Nat} (h : Skips s x p) (ha : a ≤ x) : lexFrom (s.extract a p) (x - a) = .ok [⟨0, ⟨#[]⟩, 0, (p - a : Nat)⟩] := by
  have hz : (s.extract a p).size = p - a := by simp; omega
  induction h with
  | here => rw [lex_end (by omega), hz]
  | @step x n q hx hpc hs ih =>
    have hle := hs.le
    have hn := piece_skip hpc
    have hd : (s.extract a q).data.toList.drop (x - a) = (s.data.toList.drop x).take (q - x) := by
      simp [List.drop_take]
      rw [show a + (x - a) = x by omega, show q - a - (x - a) = q - x by omega]
    rw [lex_skip (n := n) (by omega) (by rw [hd]; exact piece_take hpc (by omega)), show x - a + n = x + n - a by omega]
    exact ih hp (by omega) hz
theorem skips_one {s : ByteArray} {a p : Nat} (hp : p ≤ s.size) (h : Skips s a p) (hs : s.size ≤ 2000) : lexB (s.extract a p ++ nlB) = .ok [⟨0, ⟨#[]⟩, 0, ((p - a : Nat) : Int) + 1⟩] := by
  have hz : (s.extract a p).size = p - a := by simp; omega
  have e : s.extract a p ++ nlB = s.extract a p ++ nlB ++ ByteArray.empty := by rw [ByteArray.append_empty]
  have h0 : lexB (s.extract a p) = .ok [⟨0, ⟨#[]⟩, 0, (p - a : Nat)⟩] := by
    rw [lexB, if_neg (by omega)]
    have := skips_lex s a p hp h (Nat.le_refl _)
    rwa [Nat.sub_self] at this
  have h1 : lexB ByteArray.empty = .ok [⟨0, ⟨#[]⟩, 0, 0⟩] := by
    rw [lexB, if_neg (by decide), lex_end (by decide)]
    rfl
  rw [e, lexB_glue (by omega) (by decide), h0, h1, hz]
  simp [glueE, shiftT]

theorem from_err (s : ByteArray) : ∀ (k a : Nat), s.size - a ≤ k → a ≤ s.size → ∀ e i, lexFrom s a = .error (e, i) → 40 ≤ e ∧ e ≤ 42 ∧ i < s.size := by
  intro k
  induction k with
  | zero =>
    intro a hk ha e i hl
    rw [lex_end (by omega)] at hl
    cases hl
  | succ k ih =>
    intro a hk ha e i hl
    by_cases hlt : a < s.size
    · cases hp : piece (s.data.toList.drop a) with
      | skip n =>
        have hn := piece_skip hp
        have hn2 := piece_len hn.2 ha
        rw [lex_skip hlt hp] at hl
        exact ih (a + n) (by omega) hn2 e i hl
      | tok kd n v =>
        have hn := piece_tok hp
        have hn2 := piece_len hn.2 ha
        rw [lex_tok hlt hp] at hl
        cases hr : lexFrom s (a + n) with
        | error e2 =>
          rw [hr] at hl
          injection hl with hl
          subst hl
          exact ih (a + n) (by omega) hn2 e i hr
        | ok r => rw [hr] at hl; cases hl
      | bad e2 =>
        rw [lex_bad hlt hp] at hl
        injection hl with hl
        injection hl with h1 h2
        subst h1 h2
        unfold piece at hp
        split at hp
        · cases hp
        · have := next_bad hp (fun q => by
            have := congrArg List.length q
            rw [List.length_drop, bsize] at this
            simp at this
            omega)
          exact ⟨this.1, this.2, hlt⟩
    · rw [lex_end hlt] at hl
      cases hl
theorem lexB_err {s : ByteArray} {e : Int} {i : Nat} (h : lexB s = .error (e, i)) : e ≠ 0 := by
  rw [lexB] at h
  split at h
  · injection h with h
    injection h with h _
    omega
  · have := from_err s _ 0 (Nat.le_refl _) (Nat.zero_le _) e i h
    omega
theorem lexB_err2 {s : ByteArray} {e : Int} {i : Nat} (h : lexB s = .error (e, i)) (hs : s.size ≤ 2000) : 40 ≤ e ∧ e ≤ 42 ∧ i < s.size := by
  rw [lexB, if_neg (by omega)] at h
  exact from_err s _ 0 (Nat.le_refl _) (Nat.zero_le _) e i h

/-! Names. -/
theorem word_lex {u : ByteArray} (h : wordB u.data.toList = true) : lexB u = .ok [⟨1, u, 0, 0⟩, ⟨0, ⟨#[]⟩, 0, u.size⟩] := by
  have hu := wordB_pos h
  have hz := bsize u
  simp only [wordB, Bool.and_eq_true, decide_eq_true_eq] at h
  obtain ⟨⟨⟨h0, h24⟩, hL⟩, hrun⟩ := h
  have hp : piece (u.data.toList.drop 0) = .tok 1 u.size 0 := by
    rw [List.drop_zero]
    cases hl : u.data.toList with
    | nil => rw [hl] at h0; simp at h0
    | cons c t =>
      rw [hl] at hL hrun
      have hc : isL c = true := by simpa using hL
      have hc1 : ¬ (c = 47 ∨ c = 32 ∨ c = 9 ∨ c = 10) := by
        rintro (rfl | rfl | rfl | rfl) <;> exact absurd hc (by decide)
      have hps : passedN (c :: t) = 0 := by
        unfold passedN
        rw [if_neg, if_neg]
        · intro q
          simp at q
          exact hc1 (.inr q)
        · intro q
          simp [Lib.hasPrefix] at q
          exact hc1 (.inl q.1.symm)
      rw [piece, hps, if_neg (by omega), nextP, if_pos hc, if_neg (by rw [hrun, ← hl]; omega), hrun, ← hl, hz]
  rw [lexB, if_neg (by omega), lex_tok (by omega) hp, Nat.zero_add, lex_end (by omega)]
  simp [Except.map]
theorem lex_word {u : ByteArray} {t t' : Tk} (h : lexB u = .ok [t, t']) (hk : t.k = 1) (hs : t.s = u) : wordB u.data.toList = true := by
  have hz := bsize u
  rw [lexB] at h
  split at h
  · cases h
  · obtain ⟨p, x, r, h1, h2, h3, h4⟩ := from_head u _ 0 (Nat.le_refl _) (Nat.zero_le _) _ h
    injection h1 with h1 h1'
    subst h1 h1'
    rcases h4 with ⟨_, _, h4⟩ | ⟨k, n, v, h4, h5, h6, h7, h8, _⟩
    · cases h4
    · subst h8
      simp only at hk hs
      subst hk
      have hsz : (u.extract p (p + n)).size = u.size := by rw [hs]
      have hsz2 : (u.extract p (p + n)).size = n := by simp; omega
      obtain rfl : p = 0 := by omega
      obtain rfl : n = u.size := by omega
      rw [List.drop_zero] at h5
      unfold piece at h5
      split at h5
      · cases h5
      · unfold nextP at h5
        split at h5
        · cases h5
        · rename_i c l hc
          split at h5
          · split at h5
            · cases h5
            · rename_i h9 h10
              injection h5 with _ h5 _
              simp only [wordB, Bool.and_eq_true, decide_eq_true_eq]
              rw [hc, ← hc, hz, hc]
              refine ⟨⟨⟨h7, by omega⟩, by simpa using h9⟩, by rw [← hc]; exact h5⟩
          · split at h5
            · split at h5 <;> cases h5
            · split at h5 <;> cases h5
theorem res_word {u : ByteArray} (h : resB u = true) : wordB u.data.toList = true ∧ upperB u.data.toList = false := by
  rw [resB, List.any_eq_true] at h
  obtain ⟨x, hx, he⟩ := h
  have : u = x := by
    have := beq_iff_eq.1 he
    rw [ByteArray.toList_eq, ByteArray.toList_eq] at this
    exact bytes_eq this
  subst this
  have : ∀ x ∈ resW, wordB x.data.toList = true ∧ upperB x.data.toList = false := by decide
  exact this u hx

theorem from_at (s : ByteArray) : ∀ (k a : Nat), s.size - a ≤ k → a ≤ s.size → ∀ l, lexFrom s a = .ok l → ∀ t ∈ l, ∃ p : Nat, t.at_ = p ∧ p ≤ s.size := by
  intro k
  induction k with
  | zero =>
    intro a hk ha l hl t ht
    rw [lex_end (by omega)] at hl
    injection hl with hl
    rw [← hl] at ht
    simp at ht
    subst ht
    exact ⟨s.size, rfl, Nat.le_refl _⟩
  | succ k ih =>
    intro a hk ha l hl t ht
    obtain ⟨p, x, r, rfl, h2, h3, h4⟩ := from_head s _ a (Nat.le_refl _) ha l hl
    have hle := h2.le
    rcases h4 with ⟨rfl, rfl, rfl⟩ | ⟨kd, n, v, h4, h5, h6, h7, rfl, h9⟩
    · simp at ht
      subst ht
      exact ⟨s.size, rfl, Nat.le_refl _⟩
    · rcases List.mem_cons.1 ht with rfl | ht
      · exact ⟨p, rfl, h3⟩
      · exact ih (p + n) (by omega) h6 r h9 t ht
theorem lexB_at {s : ByteArray} {l : List Tk} (h : lexB s = .ok l) (hs : s.size ≤ 2000) {t : Tk} (ht : t ∈ l) : ∃ p : Nat, t.at_ = p ∧ p ≤ s.size := by
  rw [lexB, if_neg (by omega)] at h
  exact from_at s _ 0 (Nat.le_refl _) (Nat.zero_le _) l h t ht

/-! Places. -/
theorem piece_kind {l : List UInt8} {k : Int} {n : Nat} {v : Int} (h : piece l = .tok k n v) : (k = 1 ∨ k = 2 ∨ k = 3) := by
  unfold piece at h
  split at h
  · cases h
  · unfold nextP at h
    split at h
    · cases h
    · split at h
      · split at h
        · cases h
        · injection h with h; omega
      · split at h
        · split at h
          · cases h
          · injection h with h; omega
        · split at h
          · cases h
          · injection h with h; omega
structure Pl (s : ByteArray) (l : List Tk) (i E : Nat) : Prop where
  le : i ≤ l.length
  few : E ≤ s.size
  more : i < l.length → lexFrom s E = .ok (l.drop i)
  done : i = l.length → E = s.size
theorem Pl.start {s : ByteArray} {l : List Tk} (h : lexB s = .ok l) (hs : s.size ≤ 2000) : Pl s l 0 0 ∧ 0 < l.length := by
  rw [lexB, if_neg (by omega)] at h
  have hn := from_ne h
  have h0 : 0 < l.length := List.length_pos_iff.2 hn
  exact ⟨⟨Nat.zero_le _, Nat.zero_le _, fun _ => by simpa using h, fun q => by omega⟩, h0⟩
theorem Pl.step {s : ByteArray} {l : List Tk} {i E : Nat} (h : Pl s l i E) (hi : i < l.length) : ∃ (p n : Nat) (kz : Bool), l[i].at_ = (p : Int) ∧ E ≤ p ∧ p + n ≤ s.size ∧ l[i].s.size = n ∧ s.extract p (p + n) = l[i].s ∧ (l[i].k == 0) = kz ∧ decide (i + 1 = l.length) = kz ∧ decide (n = 0) = kz ∧ Skips s E p ∧ Pl s l (i + 1) (p + n) := by
  obtain ⟨p, t, r, h1, h2, h3, h4⟩ := from_head s _ E (Nat.le_refl _) h.few _ (h.more hi)
  have hd := List.drop_eq_getElem_cons hi
  rw [h1] at hd
  injection hd with e1 e2
  rw [← e1]
  have hle := h2.le
  have hlen : (l.drop (i + 1)).length = l.length - (i + 1) := List.length_drop
  rw [← e2] at hlen
  rcases h4 with ⟨rfl, rfl, rfl⟩ | ⟨k, n, v, h4, h5, h6, h7, rfl, h9⟩
  · have hl : i + 1 = l.length := by simp at hlen; omega
    refine ⟨s.size, 0, true, rfl, hle, by omega, rfl, ?_, rfl, by simp [hl], rfl, h2, by omega, by omega, fun q => by omega, fun _ => by omega⟩
    apply bytes_eq
    simp
  · have hr := List.length_pos_iff.2 (from_ne h9)
    have hl : i + 1 < l.length := by omega
    have hk := piece_kind h5
    refine ⟨p, n, false, rfl, hle, h6, by simp; omega, rfl, by simp; omega, by simp; omega, by simp; omega, h2, by omega, by omega, fun _ => by rw [h9, e2], fun q => by omega⟩
end Go.Proofs.YtjoiflokekebkaaGreatDoor
end

section
/- What the tokens of a text are to the reader. -/
namespace Go.Proofs.YtjoiflokekebkaaGreatDoor

theorem piece_val {l : List UInt8} {k : Int} {n : Nat} {v : Int} (h : piece l = .tok k n v) : 0 ≤ v ∧ v ≤ 9223372036854775807 := by
  unfold piece at h
  split at h
  · cases h
  · unfold nextP at h
    split at h
    · cases h
    · split at h
      · split at h
        · cases h
        · injection h with _ _ h; omega
      · split at h
        · split at h
          · cases h
          · injection h with _ _ h; omega
        · split at h
          · cases h
          · injection h with _ _ h; omega
theorem from_toks (s : ByteArray) : ∀ (k a : Nat), s.size - a ≤ k → a ≤ s.size → ∀ l, lexFrom s a = .ok l →
    (∀ (i : Nat) (t : Tk), l[i]? = some t → t.k ≠ 0 → i + 1 < l.length) ∧ (∀ t ∈ l, (0 ≤ t.n ∧ t.n ≤ 9223372036854775807) ∧ t.s.size ≤ s.size) ∧ l.length ≤ s.size - a + 1 := by
  intro k
  induction k with
  | zero =>
    intro a hk ha l hl
    rw [lex_end (by omega)] at hl
    injection hl with hl
    subst hl
    refine ⟨fun i t h hk => ?_, fun t ht => ?_, by simp⟩
    · cases i with
      | zero => simp at h; subst h; exact absurd rfl hk
      | succ i => simp at h
    · simp at ht; subst ht; exact ⟨by simp, Nat.zero_le _⟩
  | succ k ih =>
    intro a hk ha l hl
    obtain ⟨p, x, r, rfl, h2, h3, h4⟩ := from_head s _ a (Nat.le_refl _) ha l hl
    have hle := h2.le
    rcases h4 with ⟨rfl, rfl, rfl⟩ | ⟨kd, n, v, h4, h5, h6, h7, rfl, h9⟩
    · refine ⟨fun i t h hk => ?_, fun t ht => ?_, by simp⟩
      · cases i with
        | zero => simp at h; subst h; exact absurd rfl hk
        | succ i => simp at h
      · simp at ht; subst ht; exact ⟨by simp, Nat.zero_le _⟩
    · obtain ⟨i1, i2, i3⟩ := ih (p + n) (by omega) h6 r h9
      have hne : r ≠ [] := from_ne h9
      have hr : 0 < r.length := List.length_pos_iff.2 hne
      refine ⟨fun i t h hk => ?_, fun t ht => ?_, by simp; omega⟩
      · cases i with
        | zero => simp; omega
        | succ i => simp at h; have := i1 i t h hk; simp; omega
      · rcases List.mem_cons.1 ht with rfl | ht
        · have hv := piece_val h5
          exact ⟨hv, by simp; omega⟩
        · exact i2 t ht
theorem lexB_toks {s : ByteArray} {l : List Tk} (h : lexB s = .ok l) : Toks l ∧ s.size ≤ 65536 := by
  by_cases h6 : 65536 < s.size
  · rw [lexB, if_pos h6] at h; cases h
  · rw [lexB, if_neg h6] at h
    obtain ⟨h1, h2, h3⟩ := from_toks s _ 0 (Nat.le_refl _) (Nat.zero_le _) l h
    exact ⟨⟨from_ne h, h1, fun t ht => by have := (h2 t ht).1; omega, by omega, fun t ht => by have := (h2 t ht).2; omega⟩, by omega⟩
end Go.Proofs.YtjoiflokekebkaaGreatDoor
end
