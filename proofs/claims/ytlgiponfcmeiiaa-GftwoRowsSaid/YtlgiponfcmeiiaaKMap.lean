/- A map from numbers that the call itself makes: which keys are there, and what each holds; elements of one cell. -/
import Derived.Test.YtlgiponfcmeiiaaHeapB
import Derived.Maps.Own
import Derived.Maps.OwnSet
namespace Go.Proofs.Ytlgiponfcmeiiaa
open Go Go.RowKit
/-- How elements read. -/
structure ElR {β : Type} (R : Value → Option (DataW Unit × List MemPlace)) (enc : β → Value) (dat : β → DataW Unit) : Prop where
  rd : ∀ x, R (enc x) = some (dat x, [])
  inv : ∀ v x ps, R v = some (dat x, ps) → v = enc x
def bd (a : Bool) : DataW Unit := .lit (.bool a)
def boolR : Value → Option (DataW Unit × List MemPlace)
  | .bool a => some (bd a, [])
  | _ => none
theorem elBool : ElR boolR Value.bool bd := ⟨fun _ => rfl, fun v x ps h => by
  unfold boolR at h
  split at h
  · rename_i c
    simp only [bd, Option.some.injEq, Prod.mk.injEq, DataW.lit.injEq, Lit.bool.injEq] at h
    rw [h.1]
  · cases h⟩
/-- Slices as elements: where they lie, their length, their room. -/
abbrev SlE := Option (Nat × Nat) × Nat × Nat
def slAd : Option (Nat × Nat) → DataW Unit
  | none => .nil
  | some p => .agg [.lit (.int .i64 p.1), .lit (.int .i64 p.2)]
def slD (x : SlE) : DataW Unit := .agg [slAd x.1, .lit (.int .i64 x.2.1), .lit (.int .i64 x.2.2)]
def slA (x : SlE) : Option Addr := x.1.map fun p => ⟨p.1, p.2, none⟩
def slE (x : SlE) : Value := .slice (slA x) x.2.1 x.2.2
def slR : Value → Option (DataW Unit × List MemPlace)
  | .slice none n c => some (slD (none, n, c), [])
  | .slice (some ⟨b, off, none⟩) n c => some (slD (some (b, off), n, c), [])
  | _ => none
theorem slD_inj {x y : SlE} (h : slD x = slD y) : x = y := by
  obtain ⟨a, n, c⟩ := x
  obtain ⟨b, m, d⟩ := y
  simp only [slD, DataW.agg.injEq, List.cons.injEq, DataW.lit.injEq, Lit.int.injEq, true_and, and_true, Int.ofNat_inj] at h
  obtain ⟨h1, h2, h3⟩ := h
  subst h2; subst h3
  have : a = b := by
    cases a with
    | none => cases b with
      | none => rfl
      | some q => simp [slAd] at h1
    | some p => cases b with
      | none => simp [slAd] at h1
      | some q =>
        simp only [slAd, DataW.agg.injEq, List.cons.injEq, DataW.lit.injEq, Lit.int.injEq, true_and, and_true, Int.ofNat_inj] at h1
        obtain ⟨e1, e2⟩ := h1
        rw [Prod.ext e1 e2]
  rw [this]
theorem elSl : ElR slR slE slD := ⟨fun x => by
  obtain ⟨a, n, c⟩ := x
  cases a with
  | none => rfl
  | some p => rfl, fun v x ps h => by
  unfold slR at h
  split at h
  · rename_i n c
    have := slD_inj (Prod.mk.inj (Option.some.inj h)).1
    subst this; rfl
  · rename_i b off n c
    have := slD_inj (Prod.mk.inj (Option.some.inj h)).1
    subst this; rfl
  · cases h⟩
theorem slZero : ∀ w, (zeroValue 36).run Try.prog w = .ok (slE (none, 0, 0)) w := fun w => Try.zeroValue36 w
theorem key_wf {k : Nat} (hk : k ≤ 4611686018427387904) : (Lit.int .i64 (k : Int)).wf = true := by
  simp only [Lit.wf, Bool.and_eq_true, decide_eq_true_eq]
  have h1 : IntKind.i64.min = -9223372036854775808 := rfl
  have h2 : IntKind.i64.max = 9223372036854775807 := rfl
  rw [h1, h2]; omega
theorem pkeyed : Maps.Keyed Try.prog 3 := Maps.int_keyed Try.underlying3
def updN {β : Type} (f : Nat → β) (k : Nat) (x : β) : Nat → β := fun i => if i = k then x else f i
/-- Block b is a map with the keys ks, at which it holds f; at most n stores were made. -/
def KMap {β : Type} (R : Value → Option (DataW Unit × List MemPlace)) (dat : β → DataW Unit) (w : World) (b n : Nat) (ks : List Nat) (f : Nat → β) : Prop :=
  ∃ D, w.ownsMap Try.prog 3 R b n D ∧ Maps.size D = ks.length ∧ (∀ k : Nat, k ≤ 4611686018427387904 → Maps.has D (.int .i64 (k : Int)) = decide (k ∈ ks)) ∧ ∀ k : Nat, k ≤ 4611686018427387904 → k ∈ ks → ∀ z, D.atKey (.int .i64 (k : Int)) z = dat (f k)
section
variable {β : Type} {R : Value → Option (DataW Unit × List MemPlace)} {enc : β → Value} {dat : β → DataW Unit} {w : World} {b n : Nat} {ks : List Nat} {f : Nat → β}
theorem KMap.made (w : World) (f : Nat → β) : KMap R dat (w.alloc (.map #[] 0)) w.heap.size 0 [] f :=
  ⟨.map [], World.ownsMap_made w Try.prog 3 R, rfl, fun _ _ => rfl, fun _ _ h => by cases h⟩
theorem KMap.look (hE : ElR R enc dat) {T E : TypeId} (hu : Try.prog.underlying T = some (.map 3 E)) {z : β} (hz : (zeroValue E).run Try.prog w = .ok (enc z) w) (h : KMap R dat w b n ks f) (k : Nat) (hk : k ≤ 4611686018427387904) :
    (Instr.lookup T (.map (some b)) (.int .i64 (k : Int)) true).run Try.prog w = .ok (.tuple #[enc (if k ∈ ks then f k else z), .bool (decide (k ∈ ks))]) w := by
  obtain ⟨D, h1, _, h3, h4⟩ := h
  obtain ⟨v, ps, hrun, hv⟩ := h1.look_ok pkeyed hu hz (hE.rd z) (Maps.keyOf_int_mk Try.underlying3 (key_wf hk))
  rw [h3 k hk] at hrun
  by_cases hm : k ∈ ks
  · rw [h4 k hk hm] at hv
    rw [hrun, hE.inv _ _ _ hv, if_pos hm]
  · have := h3 k hk
    rw [decide_eq_false hm] at this
    rw [Maps.atKey_of_not_has this] at hv
    rw [hrun, hE.inv _ _ _ hv, if_neg hm]
theorem KMap.store (hE : ElR R enc dat) {T E : TypeId} (hu : Try.prog.underlying T = some (.map 3 E)) (h : KMap R dat w b n ks f) (hn : n ≤ 1000000) (k : Nat) (hk : k ≤ 4611686018427387904) (x : β) :
    ∃ w', (Instr.mapUpdate T (.map (some b)) (.int .i64 (k : Int)) (enc x)).run Try.prog w = .ok () w' ∧ KMap R dat w' b (n + 1) (if k ∈ ks then ks else k :: ks) (updN f k x) ∧ w.mapTurned w' b := by
  obtain ⟨D, h1, h2, h3, h4⟩ := h
  have ht := h1.tidy pkeyed
  obtain ⟨w', hrun, r1, r2⟩ := h1.store pkeyed hu (by unfold maxLen; omega) (Maps.keyOf_int_mk Try.underlying3 (key_wf hk)) (hE.rd x)
  have hlit : WideAt.IsKeyLit (Lit.int .i64 (k : Int)) := trivial
  have hmem : ∀ i, i ∈ (if k ∈ ks then ks else k :: ks) ↔ i = k ∨ i ∈ ks := fun i => by
    by_cases hm : k ∈ ks
    · rw [if_pos hm]
      exact ⟨.inr, fun e => e.elim (fun e => by rw [e]; exact hm) id⟩
    · rw [if_neg hm, List.mem_cons]
  refine ⟨w', hrun, ⟨_, r1, ?_, fun i hi => ?_, fun i hi hm z => ?_⟩, r2⟩
  · rw [Maps.size_put ht, h3 k hk, h2]
    by_cases hm : k ∈ ks
    · rw [decide_eq_true hm, if_pos rfl, if_pos hm]
    · rw [decide_eq_false hm, if_neg (by decide), if_neg hm]; rfl
  · by_cases e : i = k
    · subst e
      rw [Maps.has_put_same ht.isMap hlit, decide_eq_true ((hmem i).2 (.inl rfl))]
    · rw [Maps.has_put_other (fun g => e (by simp only [Lit.int.injEq, true_and] at g; omega)), h3 i hi]
      congr 1
      rw [hmem]
      exact propext ⟨.inr, fun g => g.elim (fun g => absurd g e) id⟩
  · unfold updN
    by_cases e : i = k
    · subst e; rw [if_pos rfl]; exact Maps.atKey_put_same ht.isMap hlit _ _
    · rw [if_neg e, Maps.atKey_put_other (fun g => e (by simp only [Lit.int.injEq, true_and] at g; omega))]
      exact h4 i hi (((hmem i).1 hm).resolve_left e) z
theorem KMap.len (h : KMap R dat w b n ks f) {T E : TypeId} (hu : Try.prog.underlying T = some (.map 3 E)) (ty : TypeId) : (Builtin.len_ #[T] ty #[.map (some b)]).run Try.prog w = .ok (.int .i64 (ks.length : Nat)) w := by
  obtain ⟨D, h1, h2, _⟩ := h
  rw [h1.len hu ty, h2]
theorem KMap.lt (h : KMap R dat w b n ks f) : b < w.heap.size := by obtain ⟨D, h1, _⟩ := h; exact h1.lt
/-- .. as what a block holds. -/
def kmapO (R : Value → Option (DataW Unit × List MemPlace)) (dat : β → DataW Unit) (n : Nat) (ks : List Nat) (f : Nat → β) : Obj → Prop := fun o => ∀ (w : World) (b : Nat), w.heap[b]? = some o → KMap R dat w b n ks f
theorem KMap.obj (h : KMap R dat w b n ks f) : ∃ o, w.heap[b]? = some o ∧ kmapO R dat n ks f o := by
  obtain ⟨D, ⟨es, c, he, h1⟩, h2⟩ := h
  exact ⟨_, he, fun w' b' hb' => ⟨D, ⟨es, c, hb', h1⟩, h2⟩⟩
theorem kmapO_made (w : World) (f : Nat → β) : kmapO R dat 0 [] f (.map #[] 0) := by
  obtain ⟨o, ho, hr⟩ := (KMap.made (R := R) (dat := dat) w f).obj
  rw [heap_alloc_new] at ho
  cases ho
  exact hr
theorem mapTurned_block {w w' : World} {b : Nat} (h : w.mapTurned w' b) : w'.heap.size = w.heap.size ∧ (∀ i, i ≠ b → w'.heap[i]? = w.heap[i]?) ∧ w'.os = w.os ∧ w'.tape = w.tape ∧ w'.output = w.output := by
  obtain ⟨es, c, es', c', hb, rfl⟩ := h
  exact ⟨by simp [ChangeMaps.setBlock], fun i hi => ChangeMaps.heap_setBlock_other hb _ hi, rfl, rfl, rfl⟩
variable {w0 : World} {l : Kn} {s : List SlO}
theorem HH.kmap (h : HH w0 w l s) {k : Nat} (hk : nthO l k = some (b, kmapO R dat n ks f)) : KMap R dat w b n ks f := by
  obtain ⟨_, _, o, ho, hr⟩ := h.obj hk
  exact hr w b ho
theorem HH.mapTurn (h : HH w0 w l s) {k n' : Nat} {ks' : List Nat} {f' : Nat → β} {w' : World} (hk : nthO l k = some (b, kmapO R dat n ks f)) (hm : KMap R dat w' b n' ks' f') (ht : w.mapTurned w' b) : HH w0 w' (setO l k (b, kmapO R dat n' ks' f')) s := by
  obtain ⟨e1, e2, e3, e4, e5⟩ := mapTurned_block ht
  obtain ⟨o, ho, hr⟩ := hm.obj
  exact h.upd hk e3 e4 e5 (by rw [e1]; exact Nat.le_refl _) (fun i _ hi => e2 i hi) ho hr
end
section
variable {β : Type} {R : Value → Option (DataW Unit × List MemPlace)} {enc : β → Value} {dat : β → DataW Unit}
variable {w : World} {ops : Array Oper} {rest : List Oper} {o : Oper} {a : Act} {Q : Exit → Act → World → Prop}
/-- 'v, ok := m[k]'. -/
theorem wpList_look_k (hE : ElR R enc dat) (hg : o.guard = none) (T : TypeId) (m x : Operand) (hop : o.op = Op.lookup T m x true) {E : TypeId} (hu : Try.prog.underlying T = some (.map 3 E)) (z : β) (hz : ∀ w, (zeroValue E).run Try.prog w = .ok (enc z) w)
    (b n k : Nat) (ks : List Nat) (f : Nat → β) (hm : a.eval m = .map (some b)) (hx : a.eval x = .int .i64 (k : Int)) (hk : k ≤ 4611686018427387904) (h : KMap R dat w b n ks f) (v : Value) (hv : enc (if k ∈ ks then f k else z) = v) (t : Bool) (ht : decide (k ∈ ks) = t)
    (hC : wpList Try.prog ops Q rest (a.put o.dst (.tuple #[v, .bool t])) w) : wpList Try.prog ops Q (o :: rest) a w := by
  subst hv; subst ht
  refine wpList_plain hg fun K' hK' => ?_
  have hrun := h.look hE hu (hz w) k hk
  unfold Oper.wp
  simp [execOp, hop, hm, hx, hrun, Result.andThen]
  exact hK' _ _ (by simpa using hC)
/-- 'm[k] = x'. -/
theorem wpList_store_k (hE : ElR R enc dat) (hg : o.guard = none) (T : TypeId) (m x y : Operand) (hop : o.op = Op.mapUpdate T m x y) {E : TypeId} (hu : Try.prog.underlying T = some (.map 3 E))
    (b n k : Nat) (ks : List Nat) (f : Nat → β) (v : β) (vv : Value) (hvv : enc v = vv) (hm : a.eval m = .map (some b)) (hx : a.eval x = .int .i64 (k : Int)) (hy : a.eval y = vv) (hk : k ≤ 4611686018427387904) (h : KMap R dat w b n ks f) (hn : n ≤ 1000000)
    (hC : ∀ w', KMap R dat w' b (n + 1) (if k ∈ ks then ks else k :: ks) (updN f k v) → w.mapTurned w' b → wpList Try.prog ops Q rest (a.put o.dst undef) w') : wpList Try.prog ops Q (o :: rest) a w := by
  subst hvv
  refine wpList_plain hg fun K' hK' => ?_
  obtain ⟨w', hrun, r1, r2⟩ := h.store hE hu hn k hk v
  unfold Oper.wp
  simp [execOp, hop, hm, hx, hy, hrun, Result.andThen]
  exact hK' _ _ (hC w' r1 r2)
/-- 'make(map[..]..)'. -/
theorem wpList_makeMap_k (hg : o.guard = none) (T : TypeId) (hop : o.op = Op.makeMap T none)
    (hC : wpList Try.prog ops Q rest (a.put o.dst (.map (some w.heap.size))) (w.alloc (.map #[] 0))) : wpList Try.prog ops Q (o :: rest) a w := by
  refine wpList_plain hg fun K' hK' => ?_
  have hrun : (Instr.makeMap T none).run Try.prog w = .ok (.map (some w.heap.size)) (w.alloc (.map #[] 0)) := by
    simp [Instr.makeMap, Result.andThen]
  unfold Oper.wp
  simp [execOp, hop, hrun, Result.andThen]
  exact hK' _ _ hC
/-- 'len(m)'. -/
theorem wpList_len_k (hg : o.guard = none) (T : TypeId) (m : Operand) (hop : o.op = Op.call { callee := Callee.builtin Builtin.len, args := #[m], argTypes := #[T] }) {E : TypeId} (hu : Try.prog.underlying T = some (.map 3 E))
    (b n : Nat) (ks : List Nat) (f : Nat → β) (hm : a.eval m = .map (some b)) (h : KMap R dat w b n ks f) (hC : wpList Try.prog ops Q rest (a.put o.dst (.int .i64 (ks.length : Nat))) w) : wpList Try.prog ops Q (o :: rest) a w := by
  refine wpList_plain hg fun K' hK' => ?_
  have hrun := h.len hu o.type
  unfold Oper.wp
  simp [execOp, hop, resolve, invoke, builtin, hm, hrun, Result.andThen]
  exact hK' _ _ hC
end
end Go.Proofs.Ytlgiponfcmeiiaa
