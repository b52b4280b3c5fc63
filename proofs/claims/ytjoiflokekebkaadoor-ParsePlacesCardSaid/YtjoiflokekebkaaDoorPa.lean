/- Plain: the reader of sources, over lists of tokens. -/
import Derived.Test.YtjoiflokekebkaaDoorL3
set_option linter.all false
namespace Go.Proofs.YtjoiflokekebkaaDoor

/-! ### What is read -/
inductive Ty where
  | mk (k : Int) (n : ByteArray) (l : List Ty)
structure Fld where
  n : ByteArray
  t : Ty
structure Str where
  n : ByteArray
  drop : Bool
  fs : List Fld
  at_ : Int
structure Enm where
  n : ByteArray
  vs : List Fld
  at_ : Int
structure Plc where
  n : ByteArray
  p : List ByteArray
structure Opr where
  num : Bool
  n : Int
  p : Plc
structure Rvl where
  k : Int
  ops : List Opr
  p : Plc
  n : ByteArray
  v : ByteArray
mutual
inductive Stm where
  | mk (k at_ : Int) (n : ByteArray) (t : Ty) (p : Plc) (rv : Rvl) (op : Opr) (th el : List Stm) (arms : List Arm)
inductive Arm where
  | mk (v b : ByteArray) (body : List Stm)
end
structure Fnc where
  n : ByteArray
  ps : List Fld
  b : List Stm
  at_ : Int
structure Src where
  ss : List Str
  es : List Enm
  fs : List Fnc

abbrev noB : ByteArray := ⟨#[]⟩
def Ty.zero : Ty := .mk 0 noB []
def Plc.zero : Plc := ⟨noB, []⟩
def Opr.zero : Opr := ⟨false, 0, .zero⟩
def Rvl.zero : Rvl := ⟨0, [], .zero, noB, noB⟩
def Src.zero : Src := ⟨[], [], []⟩

/-! ### Reading: what is read, and the tokens behind; or what is wrong, and where -/
abbrev Ps (α : Type) := List Tk → Except (Int × Int) (α × List Tk)
section
variable {α β : Type}
def Ps.ret (x : α) : Ps α := fun ts => .ok (x, ts)
def Ps.bd (p : Ps α) (f : α → Ps β) : Ps β := fun ts => match p ts with
  | .error e => .error e
  | .ok (x, ts') => f x ts'
theorem Ps.bd_ok {p : Ps α} {f : α → Ps β} {ts ts' : List Tk} {x : α} (h : p ts = .ok (x, ts')) : p.bd f ts = f x ts' := by simp only [Ps.bd, h]
theorem Ps.bd_err {p : Ps α} {f : α → Ps β} {ts : List Tk} {e : Int × Int} (h : p ts = .error e) : p.bd f ts = .error e := by simp only [Ps.bd, h]
end
def hd (ts : List Tk) : Tk := ts.headD ⟨0, noB, 0, 0⟩
def stp {α : Type} (e : Int) : Ps α := fun ts => .error (e, (hd ts).at_)
def isW (s : ByteArray) (ts : List Tk) : Bool := (decide ((hd ts).k = 1) || decide ((hd ts).k = 3)) && ((hd ts).s.toList == s.toList)
def opt (s : ByteArray) : Ps Bool := fun ts => if isW s ts = true then .ok (true, ts.tail) else .ok (false, ts)
def must (s : ByteArray) : Ps Unit := fun ts => if isW s ts = true then .ok ((), ts.tail) else .error (60, (hd ts).at_)
def namedB (g : Bool) (t : Tk) : Bool := decide (t.k = 1) && !resB t.s && (upperB t.s.data.toList == g)
def name (g : Bool) : Ps ByteArray := fun ts => if namedB g (hd ts) = true then .ok ((hd ts).s, ts.tail) else .error (60, (hd ts).at_)
section
variable {α : Type}
/-- If a word is there it is taken, and p goes on; else q. -/
def optE (s : ByteArray) (p q : Ps α) : Ps α := fun ts => if isW s ts = true then p ts.tail else q ts
theorem optE_t {s : ByteArray} {p q : Ps α} {ts : List Tk} (h : isW s ts = true) : optE s p q ts = p ts.tail := by rw [optE, if_pos h]
theorem optE_f {s : ByteArray} {p q : Ps α} {ts : List Tk} (h : isW s ts = false) : optE s p q ts = q ts := by rw [optE, if_neg (by rw [h]; decide)]
/-- Things with commas ahead, up to a sign. -/
def moreP (fin : ByteArray) (read : Ps α) : Nat → Ps (List α)
  | 0 => stp 60
  | n + 1 => optE (⟨#[44]⟩ : ByteArray) (read.bd fun x => (moreP fin read n).bd fun l => .ret (x :: l)) ((must fin).bd fun _ => .ret [])
def listP (fin : ByteArray) (read : Ps α) : Ps (List α) := optE fin (.ret []) (read.bd fun x => fun ts => (moreP fin read (ts.length + 1)).bd (fun l => .ret (x :: l)) ts)
end
def tyP : Nat → Ps Ty
  | 0 => stp 61
  | k + 1 => optE (⟨#[105, 110, 116]⟩ : ByteArray) (.ret (.mk 1 noB [])) (optE (⟨#[99, 111]⟩ : ByteArray) ((name false).bd fun n => .ret (.mk 7 n [])) (optE (⟨#[98, 111, 120]⟩ : ByteArray) ((tyP k).bd fun t => .ret (.mk 4 noB [t]))
      (optE (⟨#[38]⟩ : ByteArray) (optE (⟨#[109, 117, 116]⟩ : ByteArray) ((tyP k).bd fun t => .ret (.mk 6 noB [t])) ((tyP k).bd fun t => .ret (.mk 5 noB [t]))) ((name true).bd fun n => .ret (.mk 2 n [])))))
def fieldP : Ps Fld := (name false).bd fun n => (must (⟨#[58]⟩ : ByteArray)).bd fun _ => (tyP 61).bd fun t => .ret ⟨n, t⟩
def variantP : Ps Fld := (name true).bd fun n => optE (⟨#[40]⟩ : ByteArray) ((tyP 61).bd fun t => (must (⟨#[41]⟩ : ByteArray)).bd fun _ => .ret ⟨n, t⟩) (.ret ⟨n, .zero⟩)
def stepsP : Nat → Ps (List ByteArray)
  | 0 => stp 60
  | n + 1 => optE (⟨#[46]⟩ : ByteArray) (optE (⟨#[42]⟩ : ByteArray) ((stepsP n).bd fun l => .ret (noB :: l)) ((name false).bd fun x => (stepsP n).bd fun l => .ret (x :: l))) (.ret [])
def placeP : Ps Plc := (name false).bd fun n => fun ts => (stepsP (ts.length + 1)).bd (fun l => .ret ⟨n, l⟩) ts
def bareP : Ps Plc := (name false).bd fun n => .ret ⟨n, []⟩
/-- A number that stands there; else q. -/
def numE {α : Type} (p : Int → Ps α) (q : Ps α) : Ps α := fun ts => if (hd ts).k = 2 then p (hd ts).n ts.tail else q ts
def operP : Ps Opr := optE (⟨#[45]⟩ : ByteArray) (numE (fun n => .ret ⟨true, -n, .zero⟩) (stp 60)) (numE (fun n => .ret ⟨true, n, .zero⟩) (placeP.bd fun p => .ret ⟨false, 0, p⟩))
def argsP : Ps (List Opr) := (must (⟨#[40]⟩ : ByteArray)).bd fun _ => listP (⟨#[41]⟩ : ByteArray) operP
/-- If a great name stands there; else q. -/
def greatE {α : Type} (p q : Ps α) : Ps α := fun ts => if namedB true (hd ts) = true then p ts else q ts
def madeP : Ps Rvl := (name true).bd fun n => optE (⟨#[58, 58]⟩ : ByteArray)
  ((name true).bd fun v => optE (⟨#[40]⟩ : ByteArray) (operP.bd fun o => (must (⟨#[41]⟩ : ByteArray)).bd fun _ => .ret ⟨11, [o], .zero, n, v⟩) (.ret ⟨11, [], .zero, n, v⟩))
  (argsP.bd fun l => .ret ⟨10, l, .zero, n, noB⟩)
def signE (a : Opr) (k : Int) : Ps Rvl := operP.bd fun b => .ret ⟨k, [a, b], .zero, noB, noB⟩
def setP : Ps Rvl :=
  optE (⟨#[38]⟩ : ByteArray) (optE (⟨#[109, 117, 116]⟩ : ByteArray) (placeP.bd fun p => .ret ⟨7, [], p, noB, noB⟩) (placeP.bd fun p => .ret ⟨6, [], p, noB, noB⟩)) <|
  optE (⟨#[98, 111, 120]⟩ : ByteArray) (operP.bd fun o => .ret ⟨8, [o], .zero, noB, noB⟩) <|
  optE (⟨#[119, 97, 105, 116]⟩ : ByteArray) (operP.bd fun o => .ret ⟨15, [o], .zero, noB, noB⟩) <|
  optE (⟨#[117, 110, 98, 111, 120]⟩ : ByteArray) (bareP.bd fun p => .ret ⟨9, [], p, noB, noB⟩) <|
  optE (⟨#[97, 119, 97, 105, 116]⟩ : ByteArray) (bareP.bd fun p => .ret ⟨13, [], p, noB, noB⟩) <|
  optE (⟨#[112, 111, 108, 108]⟩ : ByteArray) (bareP.bd fun p => .ret ⟨14, [], p, noB, noB⟩) <|
  optE (⟨#[115, 116, 97, 114, 116]⟩ : ByteArray) ((name false).bd fun n => argsP.bd fun l => .ret ⟨12, l, .zero, n, noB⟩) <|
  greatE madeP <|
  operP.bd fun a => optE (⟨#[43]⟩ : ByteArray) (signE a 1) <| optE (⟨#[45]⟩ : ByteArray) (signE a 2) <| optE (⟨#[42]⟩ : ByteArray) (signE a 3) <| optE (⟨#[60]⟩ : ByteArray) (signE a 4) <| optE (⟨#[61, 61]⟩ : ByteArray) (signE a 5) (.ret ⟨0, [a], .zero, noB, noB⟩)
section
variable (blk : Ps (List Stm))
def armP : Ps Arm := (name true).bd fun v => optE (⟨#[40]⟩ : ByteArray)
  ((name false).bd fun b => (must (⟨#[41]⟩ : ByteArray)).bd fun _ => (must (⟨#[61, 62]⟩ : ByteArray)).bd fun _ => blk.bd fun l => .ret (.mk v b l))
  ((must (⟨#[61, 62]⟩ : ByteArray)).bd fun _ => blk.bd fun l => .ret (.mk v noB l))
def armsP : Nat → Ps (List Arm)
  | 0 => stp 60
  | n + 1 => optE (⟨#[125]⟩ : ByteArray) (.ret []) ((armP blk).bd fun a => (armsP n).bd fun l => .ret (a :: l))
/-- A statement that has none in it, but for what ends it. -/
def simpleP (at_ : Int) : Ps Stm :=
  optE (⟨#[108, 101, 116]⟩ : ByteArray) ((name false).bd fun n => (must (⟨#[58]⟩ : ByteArray)).bd fun _ => (tyP 61).bd fun t => (must (⟨#[61]⟩ : ByteArray)).bd fun _ => setP.bd fun r => .ret (.mk 0 at_ n t .zero r .zero [] [] [])) <|
  optE (⟨#[121, 105, 101, 108, 100]⟩ : ByteArray) (operP.bd fun o => .ret (.mk 5 at_ noB .zero .zero .zero o [] [] [])) <|
  optE (⟨#[114, 101, 116, 117, 114, 110]⟩ : ByteArray) (operP.bd fun o => .ret (.mk 6 at_ noB .zero .zero .zero o [] [] [])) <|
  optE (⟨#[112, 114, 105, 110, 116]⟩ : ByteArray) (operP.bd fun o => .ret (.mk 7 at_ noB .zero .zero .zero o [] [] [])) <|
  optE (⟨#[100, 114, 111, 112]⟩ : ByteArray) (bareP.bd fun p => .ret (.mk 8 at_ noB .zero p .zero .zero [] [] [])) <|
  placeP.bd fun p => (must (⟨#[61]⟩ : ByteArray)).bd fun _ => setP.bd fun r => .ret (.mk 1 at_ noB .zero p r .zero [] [] [])
/-- A statement, as of where it stands. -/
def stmtQ (at_ : Int) : Ps Stm :=
  optE (⟨#[105, 102]⟩ : ByteArray) (operP.bd fun o => blk.bd fun l => optE (⟨#[101, 108, 115, 101]⟩ : ByteArray) (blk.bd fun m => .ret (.mk 2 at_ noB .zero .zero .zero o l m [])) (.ret (.mk 2 at_ noB .zero .zero .zero o l [] []))) <|
  optE (⟨#[119, 104, 105, 108, 101]⟩ : ByteArray) (operP.bd fun o => blk.bd fun l => .ret (.mk 3 at_ noB .zero .zero .zero o l [] [])) <|
  optE (⟨#[109, 97, 116, 99, 104]⟩ : ByteArray) (bareP.bd fun p => (must (⟨#[123]⟩ : ByteArray)).bd fun _ => fun us => (armsP blk (us.length + 1)).bd (fun l => .ret (.mk 4 at_ noB .zero p .zero .zero [] [] l)) us) <|
  (simpleP at_).bd fun s => (must (⟨#[59]⟩ : ByteArray)).bd fun _ => .ret s
def stmtP : Ps Stm := fun ts => stmtQ blk (hd ts).at_ ts
def stmtsP : Nat → Ps (List Stm)
  | 0 => stp 60
  | n + 1 => optE (⟨#[125]⟩ : ByteArray) (.ret []) ((stmtP blk).bd fun s => (stmtsP n).bd fun l => .ret (s :: l))
end
/-- A block, in so many others less than 61. -/
def blockP : Nat → Ps (List Stm)
  | 0 => fun ts => if isW (⟨#[123]⟩ : ByteArray) ts = true then .error (61, (hd ts).at_) else .error (60, (hd ts).at_)
  | k + 1 => (must (⟨#[123]⟩ : ByteArray)).bd fun _ => fun ts => stmtsP (blockP k) (ts.length + 1) ts
def structP (drop : Bool) (at_ : Int) : Ps Str := (must (⟨#[115, 116, 114, 117, 99, 116]⟩ : ByteArray)).bd fun _ => (name true).bd fun n => (must (⟨#[123]⟩ : ByteArray)).bd fun _ => (listP (⟨#[125]⟩ : ByteArray) fieldP).bd fun l => .ret ⟨n, drop, l, at_⟩
def enumP (at_ : Int) : Ps Enm := (name true).bd fun n => (must (⟨#[123]⟩ : ByteArray)).bd fun _ => (listP (⟨#[125]⟩ : ByteArray) variantP).bd fun l => .ret ⟨n, l, at_⟩
def fnP (at_ : Int) : Ps Fnc := (must (⟨#[99, 111]⟩ : ByteArray)).bd fun _ => (name false).bd fun n => (must (⟨#[40]⟩ : ByteArray)).bd fun _ => (listP (⟨#[41]⟩ : ByteArray) fieldP).bd fun l => (blockP 60).bd fun b => .ret ⟨n, l, b, at_⟩
/-- An item, as of where it stands, into a source. -/
def itemQ (s : Src) (at_ : Int) : Ps Src :=
  optE (⟨#[100, 114, 111, 112]⟩ : ByteArray) ((structP true at_).bd fun x => .ret { s with ss := s.ss ++ [x] })
    (fun us => if isW (⟨#[115, 116, 114, 117, 99, 116]⟩ : ByteArray) us = true then (structP false at_).bd (fun x => .ret { s with ss := s.ss ++ [x] }) us
      else optE (⟨#[101, 110, 117, 109]⟩ : ByteArray) ((enumP at_).bd fun x => .ret { s with es := s.es ++ [x] }) ((fnP at_).bd fun x => .ret { s with fs := s.fs ++ [x] }) us)
def itemP (s : Src) : Ps Src := fun ts => itemQ s (hd ts).at_ ts
def itemsP : Nat → Src → Ps Src
  | 0, _ => stp 60
  | n + 1, s => fun ts => if (hd ts).k = 0 then .ok (s, ts) else (itemP s).bd (itemsP n) ts
/-- A source of a text, or what is wrong, and where. -/
def parseB (t : ByteArray) : Except (Int × Int) Src := match lexB t with
  | .error e => .error (e.1, (e.2 : Int))
  | .ok l => match itemsP (l.length + 1) .zero l with
    | .error e => .error e
    | .ok (s, _) => .ok s
end Go.Proofs.YtjoiflokekebkaaDoor
