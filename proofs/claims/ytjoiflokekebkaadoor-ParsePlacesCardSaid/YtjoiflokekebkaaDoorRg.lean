/- Walks: regions that draw their order: a call that may stop, a row of trees that grows. -/
import Derived.Test.YtjoiflokekebkaaDoorWLast
import Derived.Test.YtjoiflokekebkaaDoorR9
set_option linter.all false
namespace Go.Proofs.YtjoiflokekebkaaDoor
open Go.RowKit Go.Proofs.YtjoiflokekebkaaDoorW.PrintLast

section
variable {P : Program} {ops : Array Oper} {Q : Exit → Act → World → Prop}
/-- A call of a Go function that hands back, or stops. -/
theorem goes2_ {oi : Oper} {N : Option Tmp} {a : Act} {w : World} {K : Act → World → Prop} {f : FuncId} {fn : Func} {ars : Array Operand} {ts : Array TypeId} (hf : P.funcs[f]? = some fn) (hname : (fn.name == "runtime.NumGoroutine") = false) (hb : fn.body.isSome = true) (args : Array Value)
    (hw : Region.wanted oi (yielded ops a.tmps) = true) (hN : oi.dst = N) (hop : oi.op = .call { callee := .value (.func f), args := ars, argTypes := ts }) (hargs : ars.map a.eval = args)
    (h : Calls P f args w fun e w' => (∃ v, e = .returned v ∧ K (a.put N v) w') ∨ (∃ c, e = .panicked c ∧ Q (.panic c) a w')) : if Region.wanted oi (yielded ops a.tmps) = true then Oper.wp P oi a w K Q else K (a.put N undef) w := by
  have he := enters_ hf hname hb args w
  have hrun : (execOp a.eval oi).run P w = .ok (.enter f args) w := by
    unfold execOp
    simp [hop, resolve, Deferred.ofValue, invoke, Act.eval, hargs, he]
  rw [if_pos hw]
  subst hN
  unfold Oper.wp
  rw [hrun, Oper.upon_enter]
  refine h.mono fun e w'' hh => ?_
  rcases hh with ⟨v, rfl, hk⟩ | ⟨c, rfl, hk⟩
  · exact hk
  · exact hk
end
section
variable {P : Program} {ops : Array Oper} {o : Oper} {a : Act} {Q' : Exit → Act → World → Prop} {Kc : Act → World → Prop}
theorem Rd.append_step {W : World} {ok okp : Nat → Prop} {e : TypeId} {sz : Nat} {u : Value} {l : List (List D)} {cs : List Value} {ds : List D} (hw : Region.wanted o (yielded ops a.tmps) = true) (s x : Operand) (t : TypeId) (z : Value) (bytes : Nat)
    (ho : o.op = .call { callee := .builtin .append, args := #[s, x], argTypes := #[t, t] })
    (ht : P.underlying t = some (.slice e)) (hinfo : (P.info? e).map (fun i => (i.zero, i.size, i.bytes)) = some (some z, sz, bytes)) (hz : z.cells.size = sz) (hs0 : 0 < sz) (hb0 : 0 < bytes)
    (hs : a.eval s = u) (hx : a.eval x = .slice (some ⟨W.heap.size, 0, none⟩) 1 1)
    (h : Rd W ok u (.row e sz l)) (hc : Rds W okp cs ds) (hds : ds.length = sz) (hfresh : ∀ k, W.heap.size ≤ k → ok k) (hokp : ∀ k, okp k → ok k ∧ u.ownBlock ≠ some k) (h1 : ∀ x ∈ cs, x.oneCell' = true)
    (hl : (l.length + 1) * bytes ≤ 140737488355328)
    (hk : ∀ u1 W1, Rd W1 ok u1 (.row e sz (l ++ [ds])) → W.grownBy W1 u.ownBlock → (u1.ownBlock = u.ownBlock ∨ ∃ b, u1.ownBlock = some b ∧ W.heap.size ≤ b) → Kc (a.put o.dst u1) W1) :
    if Region.wanted o (yielded ops a.tmps) = true then Oper.wp P o a (W.alloc (.cells cs.toArray e)) Kc Q' else Kc (a.put o.dst undef) (W.alloc (.cells cs.toArray e)) := by
  obtain ⟨u1, W1, hr, h2, h3, h4⟩ := Rd.run_append (P := P) t o.type z bytes ht hinfo hz hs0 hb0 h hc hds hfresh hokp h1 hl
  rw [if_pos hw]
  unfold Oper.wp execOp
  simp only [ho, resolve, invoke, builtin, Sem.run_bind, Sem.run_pure, Result.andThen_ok, List.map_toArray, List.map_cons, List.map_nil, hs, hx, hr]
  exact hk u1 W1 h2 h3 h4
end
theorem greatE_t {α : Type} {p q : Ps α} {ts : List Tk} (h : namedB true (hd ts) = true) : greatE p q ts = p ts := by rw [greatE, if_pos h]
theorem greatE_f {α : Type} {p q : Ps α} {ts : List Tk} (h : namedB true (hd ts) = false) : greatE p q ts = q ts := by rw [greatE, if_neg (by rw [h]; decide)]
end Go.Proofs.YtjoiflokekebkaaDoor
