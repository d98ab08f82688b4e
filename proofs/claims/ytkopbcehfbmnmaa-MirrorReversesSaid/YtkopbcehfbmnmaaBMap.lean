/- A map from truth values to numbers that the call itself makes. -/
import Derived.Test.YtkopbcehfbmnmaaPMap
namespace Go.Proofs.Ytkopbcehfbmnmaa
open Go Go.RowKit
def nd (a : Int) : DataW Unit := .lit (.int .i64 a)
def intR : Value → Option (DataW Unit × List MemPlace)
  | .int .i64 a => some (nd a, [])
  | _ => none
theorem intR_mk (a : Int) : intR (.int .i64 a) = some (nd a, []) := rfl
theorem intR_inv {v : Value} {a : Int} {ps : List MemPlace} (h : intR v = some (nd a, ps)) : v = .int .i64 a := by
  unfold intR at h
  split at h
  · rename_i c
    simp only [nd, Option.some.injEq, Prod.mk.injEq, DataW.lit.injEq, Lit.int.injEq, true_and] at h
    rw [h.1]
  · cases h
def bsel (p : Int × Int) (k : Bool) : Int := if k = true then p.1 else p.2
def bput (p : Int × Int) (k : Bool) (a : Int) : Int × Int := if k = true then (a, p.2) else (p.1, a)
/-- Block b is a map of at most n entries that holds p. -/
def BMap (w : World) (b n : Nat) (p : Int × Int) : Prop := ∃ D, w.ownsMap Try.prog 4 intR b n D ∧ Maps.IsMap D ∧ ∀ k : Bool, D.atKey (.bool k) (nd 0) = nd (bsel p k)
theorem bkeyed : Maps.Keyed Try.prog 4 := Maps.bool_keyed Try.underlying4
theorem BMap.made (w : World) : BMap (w.alloc (.map #[] 0)) w.heap.size 0 (0, 0) :=
  ⟨.map [], World.ownsMap_made w Try.prog 4 intR, ⟨[], rfl⟩, fun k => by cases k <;> rfl⟩
theorem BMap.lookup {w : World} {b n : Nat} {p : Int × Int} (h : BMap w b n p) (k : Bool) : (Instr.lookup 44 (.map (some b)) (.bool k) false).run Try.prog w = .ok (.int .i64 (bsel p k)) w := by
  obtain ⟨D, h1, _, h3⟩ := h
  obtain ⟨v, ps, hrun, hv⟩ := h1.lookup bkeyed Try.underlying44 (Try.zeroValue3 w) (intR_mk 0) (Maps.keyOf_bool_mk Try.underlying4 k)
  rw [h3 k] at hv
  rw [hrun, intR_inv hv]
theorem BMap.store {w : World} {b n : Nat} {p : Int × Int} (h : BMap w b n p) (hn : n ≤ 1000000) (k : Bool) (a : Int) :
    ∃ w', (Instr.mapUpdate 44 (.map (some b)) (.bool k) (.int .i64 a)).run Try.prog w = .ok () w' ∧ BMap w' b (n + 1) (bput p k a) ∧ w.mapTurned w' b := by
  obtain ⟨D, h1, h2, h3⟩ := h
  obtain ⟨w', hrun, r1, r2⟩ := h1.store bkeyed Try.underlying44 (by unfold maxLen; omega) (Maps.keyOf_bool_mk Try.underlying4 k) (intR_mk a)
  refine ⟨w', hrun, ⟨_, r1, h2.put _ _, fun i => ?_⟩, r2⟩
  by_cases e : i = k
  · subst e
    rw [Maps.atKey_put_same h2 (show WideAt.IsKeyLit (Lit.bool i) from trivial) _ _]
    cases i <;> rfl
  · rw [Maps.atKey_put_other (fun h => e (by simp only [Lit.bool.injEq] at h; first | exact h | exact h.symm))]
    rw [h3 i]
    cases i <;> cases k <;> first | rfl | exact absurd rfl e
theorem BMap.alloc {w : World} {b n : Nat} {p : Int × Int} (h : BMap w b n p) (o : Obj) : BMap (w.alloc o) b n p := by
  obtain ⟨D, h1, h2⟩ := h; exact ⟨D, h1.alloc o, h2⟩
theorem BMap.lt {w : World} {b n : Nat} {p : Int × Int} (h : BMap w b n p) : b < w.heap.size := by
  obtain ⟨D, h1, _⟩ := h; exact h1.lt
theorem BMap.later {w w' : World} {b n B : Nat} {p : Int × Int} (h : BMap w b n p) (hb : Below B w w') (hlt : b < B) : BMap w' b n p := by
  obtain ⟨D, ⟨es, c, he, h1⟩, h2⟩ := h
  exact ⟨D, ⟨es, c, (hb.block b hlt).trans he, h1⟩, h2⟩
theorem BMap.mono {w : World} {b n n' : Nat} {p : Int × Int} (h : BMap w b n p) (hn : n ≤ n') : BMap w b n' p := by
  obtain ⟨D, h1, h2⟩ := h; exact ⟨D, h1.mono hn, h2⟩
section
variable {w : World} {ops : Array Oper} {rest : List Oper} {o : Oper} {a : Act} {Q : Exit → Act → World → Prop}
theorem wpList_lookup_bool (hg : o.guard = none) (m x : Operand) (hop : o.op = Op.lookup 44 m x false) (b n : Nat) (p : Int × Int) (k : Bool) (v : Int) (hm : a.eval m = .map (some b)) (hx : a.eval x = .bool k) (h : BMap w b n p) (hv : bsel p k = v)
    (hC : wpList Try.prog ops Q rest (a.put o.dst (.int .i64 v)) w) : wpList Try.prog ops Q (o :: rest) a w := by
  refine wpList_plain hg fun K' hK' => ?_
  have hrun := h.lookup k
  rw [hv] at hrun
  unfold Oper.wp
  simp [execOp, hop, hm, hx, hrun, Result.andThen]
  exact hK' _ _ hC
theorem wpList_store_bool (hg : o.guard = none) (m x y : Operand) (hop : o.op = Op.mapUpdate 44 m x y) (b n : Nat) (p : Int × Int) (k : Bool) (v : Int) (hm : a.eval m = .map (some b)) (hx : a.eval x = .bool k) (hy : a.eval y = .int .i64 v) (h : BMap w b n p) (hn : n ≤ 1000000)
    (hC : ∀ w', BMap w' b (n + 1) (bput p k v) → w.mapTurned w' b → wpList Try.prog ops Q rest (a.put o.dst undef) w') : wpList Try.prog ops Q (o :: rest) a w := by
  refine wpList_plain hg fun K' hK' => ?_
  obtain ⟨w', hrun, r1, r2⟩ := h.store hn k v
  unfold Oper.wp
  simp [execOp, hop, hm, hx, hy, hrun, Result.andThen]
  exact hK' _ _ (hC w' r1 r2)
theorem wpList_makeMap44 (hg : o.guard = none) (hop : o.op = Op.makeMap 44 none)
    (hC : wpList Try.prog ops Q rest (a.put o.dst (.map (some w.heap.size))) (w.alloc (.map #[] 0))) : wpList Try.prog ops Q (o :: rest) a w := by
  refine wpList_plain hg fun K' hK' => ?_
  have hrun : (Instr.makeMap 44 none).run Try.prog w = .ok (.map (some w.heap.size)) (w.alloc (.map #[] 0)) := by
    simp [Instr.makeMap, Result.andThen]
  unfold Oper.wp
  simp [execOp, hop, hrun, Result.andThen]
  exact hK' _ _ hC
end
/-- The strands at one crossing. -/
theorem own1_put (k : Nat) (f : Nat → Int × Int) (x c : Nat) : own1 k f x c = if x / 4 = c then bput (f c) (decide (x % 2 = 0)) k else f c := by
  rw [own1_at']
  by_cases h : x / 4 = c
  · rw [if_pos h, if_pos h]
    by_cases g : x % 2 = 0
    · rw [if_pos g, decide_eq_true g]; rfl
    · rw [if_neg g, decide_eq_false g]; rfl
  · rw [if_neg h, if_neg h]
end Go.Proofs.Ytkopbcehfbmnmaa
