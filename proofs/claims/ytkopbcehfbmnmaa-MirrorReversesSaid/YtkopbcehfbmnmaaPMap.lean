/- A map from numbers to pairs of numbers that the call itself makes: what it holds, as a function. -/
import Derived.Test.YtkopbcehfbmnmaaOutW
import Derived.Test.YtkopbcehfbmnmaaStrandA
import Derived.Maps.Own
import Derived.Maps.OwnSet
namespace Go.Proofs.Ytkopbcehfbmnmaa
open Go Go.RowKit
def pd (p : Int × Int) : DataW Unit := .agg [.lit (.int .i64 p.1), .lit (.int .i64 p.2)]
def pv (p : Int × Int) : Value := .agg #[.int .i64 p.1, .int .i64 p.2]
def pairL : List Value → Option (DataW Unit × List MemPlace)
  | [.int .i64 a, .int .i64 b] => some (pd (a, b), [])
  | _ => none
def pairR : Value → Option (DataW Unit × List MemPlace)
  | .agg cs => pairL cs.toList
  | _ => none
theorem pairR_mk (p : Int × Int) : pairR (pv p) = some (pd p, []) := rfl
theorem pairR_inv {v : Value} {p : Int × Int} {ps : List MemPlace} (h : pairR v = some (pd p, ps)) : v = pv p := by
  cases v <;> simp only [pairR, reduceCtorEq] at h
  rename_i cs
  unfold pairL at h
  split at h
  · rename_i a b hcs
    simp only [pd, Option.some.injEq, Prod.mk.injEq, DataW.agg.injEq, List.cons.injEq, DataW.lit.injEq, Lit.int.injEq, true_and, and_true] at h
    obtain ⟨⟨rfl, rfl⟩, _⟩ := h
    unfold pv
    rw [← hcs]
  · cases h
/-- Block b is a map of at most n entries that holds f, among the numbers that matter. -/
def PMap (w : World) (b n : Nat) (f : Nat → Int × Int) : Prop := ∃ D, w.ownsMap Try.prog 3 pairR b n D ∧ Maps.IsMap D ∧ ∀ k : Nat, k ≤ 1000000 → D.atKey (.int .i64 (k : Int)) (pd (0, 0)) = pd (f k)
theorem key_wf {k : Nat} (hk : k ≤ 1000000) : (Lit.int .i64 (k : Int)).wf = true := by
  simp only [Lit.wf, Bool.and_eq_true, decide_eq_true_eq]
  have h1 : IntKind.i64.min = -9223372036854775808 := rfl
  have h2 : IntKind.i64.max = 9223372036854775807 := rfl
  rw [h1, h2]; omega
theorem pkeyed : Maps.Keyed Try.prog 3 := Maps.int_keyed Try.underlying3
theorem PMap.made (w : World) : PMap (w.alloc (.map #[] 0)) w.heap.size 0 (fun _ => (0, 0)) :=
  ⟨.map [], World.ownsMap_made w Try.prog 3 pairR, ⟨[], rfl⟩, fun _ _ => rfl⟩
theorem PMap.lookup {w : World} {b n : Nat} {f : Nat → Int × Int} (h : PMap w b n f) (k : Nat) (hk : k ≤ 1000000) : (Instr.lookup 78 (.map (some b)) (.int .i64 (k : Int)) false).run Try.prog w = .ok (pv (f k)) w := by
  obtain ⟨D, h1, _, h3⟩ := h
  obtain ⟨v, ps, hrun, hv⟩ := h1.lookup pkeyed Try.underlying78 (Try.zeroValue67 w) (pairR_mk (0, 0)) (Maps.keyOf_int_mk Try.underlying3 (key_wf hk))
  rw [h3 k hk] at hv
  rw [hrun, pairR_inv hv]
theorem PMap.store {w : World} {b n : Nat} {f : Nat → Int × Int} (h : PMap w b n f) (hn : n ≤ 1000000) (k : Nat) (hk : k ≤ 1000000) (p : Int × Int) :
    ∃ w', (Instr.mapUpdate 78 (.map (some b)) (.int .i64 (k : Int)) (pv p)).run Try.prog w = .ok () w' ∧ PMap w' b (n + 1) (upd f k p) ∧ w.mapTurned w' b := by
  obtain ⟨D, h1, h2, h3⟩ := h
  obtain ⟨w', hrun, r1, r2⟩ := h1.store pkeyed Try.underlying78 (by unfold maxLen; omega) (Maps.keyOf_int_mk Try.underlying3 (key_wf hk)) (pairR_mk p)
  refine ⟨w', hrun, ⟨_, r1, h2.put _ _, fun i hi => ?_⟩, r2⟩
  unfold upd
  by_cases e : i = k
  · subst e; rw [if_pos rfl]; exact Maps.atKey_put_same h2 (show WideAt.IsKeyLit (Lit.int .i64 (i : Int)) from trivial) _ _
  · rw [if_neg e, Maps.atKey_put_other (fun h => e (by simp only [Lit.int.injEq, true_and] at h; omega))]
    exact h3 i hi
theorem PMap.alloc {w : World} {b n : Nat} {f : Nat → Int × Int} (h : PMap w b n f) (o : Obj) : PMap (w.alloc o) b n f := by
  obtain ⟨D, h1, h2⟩ := h; exact ⟨D, h1.alloc o, h2⟩
theorem PMap.lt {w : World} {b n : Nat} {f : Nat → Int × Int} (h : PMap w b n f) : b < w.heap.size := by
  obtain ⟨D, h1, _⟩ := h; exact h1.lt
theorem PMap.keptT {w w' : World} {b n : Nat} {f : Nat → Int × Int} (h : PMap w b n f) (hk : ∀ es c, w.heap[b]? = some (.map es c) → w'.heap[b]? = w.heap[b]?) : PMap w' b n f := by
  obtain ⟨D, ⟨es, c, hb, h1⟩, h2⟩ := h
  exact ⟨D, ⟨es, c, (hk es c hb).trans hb, h1⟩, h2⟩
theorem PMap.later {w w' : World} {b n B : Nat} {f : Nat → Int × Int} (h : PMap w b n f) (hb : Below B w w') (hlt : b < B) : PMap w' b n f :=
  h.keptT fun _ _ _ => hb.block b hlt
theorem PMap.mono {w : World} {b n n' : Nat} {f : Nat → Int × Int} (h : PMap w b n f) (hn : n ≤ n') : PMap w b n' f := by
  obtain ⟨D, h1, h2⟩ := h; exact ⟨D, h1.mono hn, h2⟩
theorem PMap.setCell {w : World} {b n : Nat} {f : Nat → Int × Int} (h : PMap w b n f) (a : Addr) (ha : b ≠ a.block) (u : Value) : PMap (w.setCell a u) b n f := by
  obtain ⟨D, h1, h2⟩ := h; exact ⟨D, h1.setCell ha u, h2⟩
/-- What a map's turn leaves alone. -/
theorem mapTurned_block {w w' : World} {b : Nat} (h : w.mapTurned w' b) : w'.heap.size = w.heap.size ∧ (∀ i, i ≠ b → w'.heap[i]? = w.heap[i]?) ∧ w'.os = w.os ∧ w'.tape = w.tape ∧ w'.output = w.output := by
  obtain ⟨es, c, es', c', hb, rfl⟩ := h
  exact ⟨by simp [ChangeMaps.setBlock], fun i hi => ChangeMaps.heap_setBlock_other hb _ hi, rfl, rfl, rfl⟩
theorem mapTurned_cells {w w' : World} {b : Nat} (h : w.mapTurned w' b) (i : Nat) (cur : Array Value) (E : TypeId) (fr : Nat × Nat) (hi : w.heap[i]? = some (.cells cur E fr)) : w'.heap[i]? = w.heap[i]? := by
  refine (mapTurned_block h).2.1 i fun e => ?_
  obtain ⟨es, c, es', c', hb, _⟩ := h
  subst e
  rw [hb] at hi; cases hi
theorem below_mapTurned {B : Nat} {a w w' : World} {b : Nat} (h : Below B a w) (ht : w.mapTurned w' b) (hb : B ≤ b) : Below B a w' := by
  obtain ⟨h1, h2, h3, h4, h5⟩ := mapTurned_block ht
  exact h.trans ⟨h3, h4, h5, by rw [h1]; exact Nat.le_refl _, fun i hi => h2 i (by omega)⟩
section
variable {w : World} {ops : Array Oper} {rest : List Oper} {o : Oper} {a : Act} {Q : Exit → Act → World → Prop}
/-- 'm[k]'. -/
theorem wpList_lookup_pair (hg : o.guard = none) (m x : Operand) (hop : o.op = Op.lookup 78 m x false) (b n k : Nat) (f : Nat → Int × Int) (K : Int) (hm : a.eval m = .map (some b)) (hx : a.eval x = .int .i64 K) (hK : K = (k : Int)) (hk : k ≤ 1000000) (h : PMap w b n f) (p q : Int) (hp : f k = (p, q))
    (hC : wpList Try.prog ops Q rest (a.put o.dst (.agg #[.int .i64 p, .int .i64 q])) w) : wpList Try.prog ops Q (o :: rest) a w := by
  subst hK
  refine wpList_plain hg fun K' hK' => ?_
  have hrun := h.lookup k hk
  rw [hp] at hrun
  unfold pv at hrun
  unfold Oper.wp
  simp [execOp, hop, hm, hx, hrun, Result.andThen]
  exact hK' _ _ hC
/-- 'm[k] = p'. -/
theorem wpList_store_pair (hg : o.guard = none) (m x y : Operand) (hop : o.op = Op.mapUpdate 78 m x y) (b n k : Nat) (f : Nat → Int × Int) (p q K : Int) (hm : a.eval m = .map (some b)) (hx : a.eval x = .int .i64 K) (hy : a.eval y = .agg #[.int .i64 p, .int .i64 q]) (hK : K = (k : Int)) (hk : k ≤ 1000000) (h : PMap w b n f) (hn : n ≤ 1000000)
    (hC : ∀ w', PMap w' b (n + 1) (upd f k (p, q)) → w.mapTurned w' b → wpList Try.prog ops Q rest (a.put o.dst undef) w') : wpList Try.prog ops Q (o :: rest) a w := by
  subst hK
  refine wpList_plain hg fun K' hK' => ?_
  obtain ⟨w', hrun, r1, r2⟩ := h.store hn k hk (p, q)
  unfold pv at hrun
  unfold Oper.wp
  simp [execOp, hop, hm, hx, hy, hrun, Result.andThen]
  exact hK' _ _ (hC w' r1 r2)
/-- 'make(map[..].., n)'. -/
theorem wpList_makeMap (hg : o.guard = none) (x : Operand) (hop : o.op = Op.makeMap 78 (some x)) (K : Int) (hx : a.eval x = .int .i64 K)
    (hC : wpList Try.prog ops Q rest (a.put o.dst (.map (some w.heap.size))) (w.alloc (.map #[] 0))) : wpList Try.prog ops Q (o :: rest) a w := by
  refine wpList_plain hg fun K' hK' => ?_
  have hrun : (Instr.makeMap 78 (some (.int .i64 K))).run Try.prog w = .ok (.map (some w.heap.size)) (w.alloc (.map #[] 0)) := by
    simp [Instr.makeMap, run_underlying Try.underlying78, asInt, asIntOf, Result.andThen]
  unfold Oper.wp
  simp [execOp, hop, hx, hrun, Result.andThen]
  exact hK' _ _ hC
end
end Go.Proofs.Ytkopbcehfbmnmaa
