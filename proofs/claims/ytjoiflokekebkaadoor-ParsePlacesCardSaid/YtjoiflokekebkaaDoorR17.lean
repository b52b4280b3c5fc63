/- Walks: what a panic is made into, and the reader's round. -/
import Derived.Test.YtjoiflokekebkaaDoorR16
import Derived.Defers
import Derived.Recover
set_option linter.all false
namespace Go.Proofs.YtjoiflokekebkaaDoor
open Go.RowKit Go.Proofs.YtjoiflokekebkaaDoorW.PrintLast

theorem Bx.cast {t : TypeId} {w : World} {x : Nat} {cs cs' : Array Value} (h : Bx t w x cs) (e : cs = cs') : Bx t w x cs' := e ▸ h
theorem ta_wrong (a b : Value) (w : World) : (Instr.typeAssert (.iface 73 (.agg #[a, b])) 20 73 false).run Tryd.prog w = .ok (.agg #[a, b]) w := by kernel_rfl
set_option maxRecDepth 100000 in
set_option maxHeartbeats 4000000 in
theorem catch_idle {S E : Nat} (w : World) : CallsD Tryd.prog 22 #[.pointer (some ⟨S, 0, none⟩), .pointer (some ⟨E, 0, none⟩)] .returning w fun e u' w' => e = .returned (.tuple #[]) ∧ u' = .returning ∧ w' = w := by
  refine callsD_of_wpS Tryd.func22 rfl fun c₀ cs hu => ?_
  apply wpS_seq
  apply wpS_region
  simp [wpOpsS, go_sem, recoverD, hu, Tryd.ntmps22, Exit.thenS]
  apply wpS_seq
  apply wpS_region
  simp [wpOpsS, go_sem, recoverD, hu, Exit.thenS]
  refine wpS_cond (t := false) (by simp [Act.eval, Array.replicate]) ?_
  simp only [Bool.false_eq_true, if_false]
  refine wpS_of_wp (wp_skip ?_)
  cases c₀
  simp_all [bodyPostS, results, Tryd.results22]
set_option maxRecDepth 100000 in
set_option maxHeartbeats 4000000 in
theorem catch_panicking {S E B : Nat} (er at_ : Int) {v1 v2 v3 e1 e2 : Value} (w : World) (hS : Bx 31 w S #[v1, v2, v3]) (hE : Bx 73 w E #[e1, e2]) (hne : S ≠ E) (hBS : B ≤ S) (hBE : B ≤ E) (older : List PanicEntry) :
    CallsD Tryd.prog 22 #[.pointer (some ⟨S, 0, none⟩), .pointer (some ⟨E, 0, none⟩)] (.panicking ({ v := .iface 73 (.agg #[.int .i64 er, .int .i64 at_]), recovered := false } :: older)) w fun e u' w' =>
      e = .returned (.tuple #[]) ∧ u' = .panicking ({ v := .iface 73 (.agg #[.int .i64 er, .int .i64 at_]), recovered := true } :: older) ∧ Below B w w' ∧ Bx 31 w' S #[.slice none 0 0, .slice none 0 0, .slice none 0 0] ∧ Bx 73 w' E #[.int .i64 er, .int .i64 at_] := by
  have hta := ta_wrong
  obtain ⟨lS, cS, fS⟩ := hS.see
  obtain ⟨lE, cE, fE⟩ := hE.see
  have h01 : (S = E) = False := eq_false hne
  have h10 : (E = S) = False := eq_false (Ne.symm hne)
  refine callsD_of_wpS Tryd.func22 rfl fun c₀ cs hu => ?_
  apply wpS_seq
  apply wpS_region
  simp [wpOpsS, go_sem, recoverD, hu, Tryd.ntmps22, Exit.thenS]
  apply wpS_seq
  apply wpS_region
  simp [wpOpsS, go_sem, recoverD, hu, Exit.thenS]
  refine wpS_cond (t := true) (by simp [Act.eval, Array.replicate]) ?_
  simp only [if_true]
  refine wpS_of_wp ?_
  go_region
  all_goals
    refine ⟨rfl, _, rfl, .tuple #[], by simp [results, Tryd.results22], rfl, rfl, ?_, ?_, ?_⟩
    · repeat (first | with_reducible exact Below.refl _ _ | with_reducible refine bel_drew ?_ | with_reducible refine bel_set ?_ (by first | exact hBS | exact hBE) _)
    · have h := (((((hS.set 0 (.slice none 0 0)).set 1 (.slice none 0 0)).set 2 (.slice none 0 0)).far (p := ⟨E, 0, none⟩) hne (.int .i64 er)).far (p := ⟨E, 1, none⟩) hne (.int .i64 at_)).drew
      exact h.cast (by simp)
    · have h := (((((hE.far (p := ⟨S, 0, none⟩) (Ne.symm hne) (.slice none 0 0)).far (p := ⟨S, 1, none⟩) (Ne.symm hne) (.slice none 0 0)).far (p := ⟨S, 2, none⟩) (Ne.symm hne) (.slice none 0 0)).set 0 (.int .i64 er)).set 1 (.int .i64 at_)).drew
      exact h.cast (by simp)
end Go.Proofs.YtjoiflokekebkaaDoor
