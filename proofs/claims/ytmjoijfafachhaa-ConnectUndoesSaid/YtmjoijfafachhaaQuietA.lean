/- A region that draws its order, whose operations read and whose callees leave the old blocks alone: one walk of the text's order, in a class of worlds. -/
import Derived.Test.YtmjoijfafachhaaBase
namespace Go.Proofs.Ytmjoijfafachhaa
open Go Go.RowKit
/-! ### A region that draws its order, whose operations read and whose callees leave the old blocks alone: one walk of the text's order, in a class of worlds. -/
section
variable {P : Program} {ops : Array Oper} {C : World → Prop} {Q : Act → Prop} {a : Act} {o : Oper} {rest : List Oper}
theorem wp_region_class {id : Nat} {Q : Exit → Act → World → Prop} {w : World} {l : List Oper} (C : World → Prop) (hm : P.follows .mixedOrders = true) (hB : Region.lexB .any l.toArray = true) (hC : C w.drew)
    (h : wpQuiet P l.toArray C (fun a' => ∀ w', C w' → Q .normal a' w') l a) : (Code.region id l.toArray true).wp P Q a w :=
  wp_region_quiet (C := C) hm hB hC (by simpa using h)
theorem wpQuiet_val (v : Value) (hg : o.guard = none) (hv : ∀ W, C W → (execOp a.eval o).run P W = .ok (.value v) W) (h : wpQuiet P ops C Q rest (a.put o.dst v)) : wpQuiet P ops C Q (o :: rest) a := by
  unfold wpQuiet
  rw [if_pos (by simp [Region.wanted, hg])]
  refine ⟨v, fun W hW => ?_, h⟩
  unfold Oper.quietAt
  rw [hv W hW]
  exact ⟨rfl, rfl⟩
theorem wpQuiet_move (x : Operand) (v : Value) (hg : o.guard = none) (hop : o.op = .move x) (hx : a.eval x = v) (h : wpQuiet P ops C Q rest (a.put o.dst v)) : wpQuiet P ops C Q (o :: rest) a :=
  wpQuiet_val v hg (fun W _ => by unfold execOp; rw [hop]; simp only [hx]; rfl) h
theorem wpQuiet_assign (x : Operand) (v : Value) (hg : o.guard = none) (hop : o.op = .assign x) (hx : a.eval x = v) (h : wpQuiet P ops C Q rest (a.put o.dst v)) : wpQuiet P ops C Q (o :: rest) a :=
  wpQuiet_val v hg (fun W _ => by unfold execOp; rw [hop]; simp only [hx]; rfl) h
/-- A call of a named function. -/
theorem wpQuiet_call (v : Value) (f : FuncId) (xs : List Operand) (ts : Array TypeId) (vs : List Value) (hg : o.guard = none) (hop : o.op = .call { callee := .value (.func f), args := xs.toArray, argTypes := ts })
    (hxs : xs.map a.eval = vs) (hf : ∀ args W, (callFunc f args).run P W = .ok (.enter f args) W) (hc : ∀ W, C W → Calls P f vs.toArray W (fun e w' => e = .returned v ∧ C w')) (h : wpQuiet P ops C Q rest (a.put o.dst v)) : wpQuiet P ops C Q (o :: rest) a := by
  unfold wpQuiet
  rw [if_pos (by simp [Region.wanted, hg])]
  refine ⟨v, fun W hW => ?_, h⟩
  unfold Oper.quietAt
  have hr : (execOp a.eval o).run P W = .ok (.enter f vs.toArray) W := by
    simp [execOp, hop, resolve, hxs, Act.eval, Deferred.ofValue, invoke, hf]
  rw [hr]
  exact ⟨rfl, hc W hW⟩
/-- A whole row, loaded as a struct. -/
theorem run_load_row {t b : Nat} {E : TypeId} {vs : List Value} {W : World} (hag : (isAgg t).run P W = .ok true W) (hsz : (sizeOf t).run P W = .ok vs.length W) (h : Row W b E vs) :
    (Instr.loadAt t (.pointer (some ⟨b, 0, none⟩))).run P W = .ok (.agg vs.toArray) W := by
  have hc := run_loadCells_list (P := P) W ⟨b, 0, none⟩ vs (fun j v hj => by rw [Addr.add_lit, Nat.zero_add, h.cell]; exact hj)
  simp [Instr.loadAt, Instr.sureAddr, loadVar, hag, hsz, hc, Result.andThen]
theorem wpQuiet_loadRow (x : Operand) (t b : Nat) (E : TypeId) (vs : List Value) (hg : o.guard = none) (hop : o.op = .load t x) (hx : a.eval x = .pointer (some ⟨b, 0, none⟩))
    (hag : ∀ W, (isAgg t).run P W = .ok true W) (hsz : ∀ W, (sizeOf t).run P W = .ok vs.length W) (hr : ∀ W, C W → Row W b E vs) (h : wpQuiet P ops C Q rest (a.put o.dst (.agg vs.toArray))) : wpQuiet P ops C Q (o :: rest) a :=
  wpQuiet_val _ hg (fun W hW => by simp [execOp, hop, hx, run_load_row (hag W) (hsz W) (hr W hW), Result.andThen]) h
/-- A field of a boxed struct of one-cell fields; an element's cell: whatever is loaded from one cell. -/
theorem wpQuiet_loadCell (x : Operand) (t : Nat) (ad : Addr) (v : Value) (hg : o.guard = none) (hop : o.op = .load t x) (hx : a.eval x = .pointer (some ad))
    (hag : ∀ W, (isAgg t).run P W = .ok false W) (hr : ∀ W, C W → W.cell? ad = some v) (h : wpQuiet P ops C Q rest (a.put o.dst v)) : wpQuiet P ops C Q (o :: rest) a :=
  wpQuiet_val _ hg (fun W hW => by
    have h1 := run_load (P := P) W ad .plain
    simp [execOp, hop, hx, Instr.loadAt, Instr.sureAddr, loadVar, hag W, h1, hr W hW, Result.andThen]) h
theorem wpQuiet_end {a : Act} (h : Q a) : wpQuiet P ops C Q [] a := h
end
/-! ### A drawn region's guarded operations, in a class of worlds. -/
section
variable {P : Program} {ops : Array Oper} {C : World → Prop} {Q : Act → Prop} {a : Act} {o : Oper} {rest : List Oper}
theorem wpQuietW_val (v : Value) (hg : Region.wanted o (yielded ops a.tmps) = true) (hv : ∀ W, C W → (execOp a.eval o).run P W = .ok (.value v) W) (h : wpQuiet P ops C Q rest (a.put o.dst v)) : wpQuiet P ops C Q (o :: rest) a := by
  unfold wpQuiet
  rw [if_pos hg]
  refine ⟨v, fun W hW => ?_, h⟩
  unfold Oper.quietAt
  rw [hv W hW]
  exact ⟨rfl, rfl⟩
theorem wpQuietW_move (x : Operand) (v : Value) (hg : Region.wanted o (yielded ops a.tmps) = true) (hop : o.op = .move x) (hx : a.eval x = v) (h : wpQuiet P ops C Q rest (a.put o.dst v)) : wpQuiet P ops C Q (o :: rest) a :=
  wpQuietW_val v hg (fun W _ => by unfold execOp; rw [hop]; simp only [hx]; rfl) h
theorem wpQuietW_call (v : Value) (f : FuncId) (xs : List Operand) (ts : Array TypeId) (vs : List Value) (hg : Region.wanted o (yielded ops a.tmps) = true) (hop : o.op = .call { callee := .value (.func f), args := xs.toArray, argTypes := ts })
    (hxs : xs.map a.eval = vs) (hf : ∀ args W, (callFunc f args).run P W = .ok (.enter f args) W) (hc : ∀ W, C W → Calls P f vs.toArray W (fun e w' => e = .returned v ∧ C w')) (h : wpQuiet P ops C Q rest (a.put o.dst v)) : wpQuiet P ops C Q (o :: rest) a := by
  unfold wpQuiet
  rw [if_pos hg]
  refine ⟨v, fun W hW => ?_, h⟩
  unfold Oper.quietAt
  have hr : (execOp a.eval o).run P W = .ok (.enter f vs.toArray) W := by
    simp [execOp, hop, resolve, hxs, Act.eval, Deferred.ofValue, invoke, hf]
  rw [hr]
  exact ⟨rfl, hc W hW⟩
theorem wpQuietW_loadRow (x : Operand) (t b : Nat) (E : TypeId) (vs : List Value) (hg : Region.wanted o (yielded ops a.tmps) = true) (hop : o.op = .load t x) (hx : a.eval x = .pointer (some ⟨b, 0, none⟩))
    (hag : ∀ W, (isAgg t).run P W = .ok true W) (hsz : ∀ W, (sizeOf t).run P W = .ok vs.length W) (hr : ∀ W, C W → Row W b E vs) (h : wpQuiet P ops C Q rest (a.put o.dst (.agg vs.toArray))) : wpQuiet P ops C Q (o :: rest) a :=
  wpQuietW_val _ hg (fun W hW => by simp [execOp, hop, hx, run_load_row (hag W) (hsz W) (hr W hW), Result.andThen]) h
/-- An operation that is not wanted. -/
theorem wpQuietW_skip (hg : Region.wanted o (yielded ops a.tmps) = false) (h : wpQuiet P ops C Q rest (a.put o.dst undef)) : wpQuiet P ops C Q (o :: rest) a := by
  unfold wpQuiet
  rw [if_neg (by rw [hg]; decide)]
  exact h
end
end Go.Proofs.Ytmjoijfafachhaa
