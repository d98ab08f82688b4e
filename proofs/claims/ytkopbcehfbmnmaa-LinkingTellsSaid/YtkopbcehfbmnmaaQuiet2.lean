/- A drawn region's guarded operations, in a class of worlds. -/
import Derived.Test.YtkopbcehfbmnmaaQuiet
namespace Go.Proofs.Ytkopbcehfbmnmaa
open Go Go.RowKit
section
variable {P : Program} {ops : Array Oper} {C : World → Prop} {Q : Act → Prop} {a : Act} {o : Oper} {rest : List Oper}
theorem wpQuietW_val (v : Value) (hg : Region.wanted o (yielded ops a.tmps) = true) (hv : ∀ W, C W → (execOp a.eval o).run P W = .ok (.value v) W) (h : wpQuiet P ops C Q rest (a.put o.dst v)) : wpQuiet P ops C Q (o :: rest) a := by
  unfold wpQuiet
  rw [if_pos hg]
  refine ⟨v, fun W hW => ?_, h⟩
  unfold Oper.quietAt
  rw [hv W hW]
  exact ⟨rfl, rfl⟩
theorem wpQuietW_move (x : Operand) (v : Value) (hg : Region.wanted o (yielded ops a.tmps) = true) (hop : o.op = .move x) (hx : a.eval x = v) (h : wpQuiet P ops C Q rest (a.put o.dst v)) : wpQuiet P ops C Q (o :: rest) a :=
  wpQuietW_val v hg (fun W _ => by unfold execOp; rw [hop]; simp only [hx]; rfl) h
theorem wpQuietW_call (v : Value) (f : FuncId) (xs : List Operand) (ts : Array TypeId) (vs : List Value) (hg : Region.wanted o (yielded ops a.tmps) = true) (hop : o.op = .call { callee := .value (.func f), args := xs.toArray, argTypes := ts })
    (hxs : xs.map a.eval = vs) (hf : ∀ args W, (callFunc f args).run P W = .ok (.enter f args) W) (hc : ∀ W, C W → Calls P f vs.toArray W (fun e w' => e = .returned v ∧ C w')) (h : wpQuiet P ops C Q rest (a.put o.dst v)) : wpQuiet P ops C Q (o :: rest) a := by
  unfold wpQuiet
  rw [if_pos hg]
  refine ⟨v, fun W hW => ?_, h⟩
  unfold Oper.quietAt
  have hr : (execOp a.eval o).run P W = .ok (.enter f vs.toArray) W := by
    simp [execOp, hop, resolve, hxs, Act.eval, Deferred.ofValue, invoke, hf]
  rw [hr]
  exact ⟨rfl, hc W hW⟩
theorem wpQuietW_loadRow (x : Operand) (t b : Nat) (E : TypeId) (vs : List Value) (hg : Region.wanted o (yielded ops a.tmps) = true) (hop : o.op = .load t x) (hx : a.eval x = .pointer (some ⟨b, 0, none⟩))
    (hag : ∀ W, (isAgg t).run P W = .ok true W) (hsz : ∀ W, (sizeOf t).run P W = .ok vs.length W) (hr : ∀ W, C W → Row W b E vs) (h : wpQuiet P ops C Q rest (a.put o.dst (.agg vs.toArray))) : wpQuiet P ops C Q (o :: rest) a :=
  wpQuietW_val _ hg (fun W hW => by simp [execOp, hop, hx, run_load_row (hag W) (hsz W) (hr W hW), Result.andThen]) h
/-- An operation that is not wanted. -/
theorem wpQuietW_skip (hg : Region.wanted o (yielded ops a.tmps) = false) (h : wpQuiet P ops C Q rest (a.put o.dst undef)) : wpQuiet P ops C Q (o :: rest) a := by
  unfold wpQuiet
  rw [if_neg (by rw [hg]; decide)]
  exact h
end
end Go.Proofs.Ytkopbcehfbmnmaa
