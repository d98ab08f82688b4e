/- Maps from numbers that the call itself makes: what they hold, as a function; elements of one cell. -/
import Derived.Test.YtkopbcehfbmnmaaBMap
import Derived.Test.YtkopbcehfbmnmaaHeap
namespace Go.Proofs.Ytkopbcehfbmnmaa
open Go Go.RowKit
/-- How elements read. -/
structure ElR {β : Type} (R : Value → Option (DataW Unit × List MemPlace)) (enc : β → Value) (dat : β → DataW Unit) : Prop where
  rd : ∀ x, R (enc x) = some (dat x, [])
  inv : ∀ v x ps, R v = some (dat x, ps) → v = enc x
def bd (a : Bool) : DataW Unit := .lit (.bool a)
def boolR : Value → Option (DataW Unit × List MemPlace)
  | .bool a => some (bd a, [])
  | _ => none
theorem elBool : ElR boolR Value.bool bd := ⟨fun _ => rfl, fun v x ps h => by
  unfold boolR at h
  split at h
  · rename_i c
    simp only [bd, Option.some.injEq, Prod.mk.injEq, DataW.lit.injEq, Lit.bool.injEq] at h
    rw [h.1]
  · cases h⟩
theorem elNat : ElR intR (fun n : Nat => Value.int .i64 (n : Int)) (fun n => nd (n : Int)) := ⟨fun _ => rfl, fun _ _ _ h => intR_inv h⟩
theorem elInt : ElR intR (Value.int .i64) nd := ⟨fun _ => rfl, fun _ _ _ h => intR_inv h⟩
def updN {β : Type} (f : Nat → β) (k : Nat) (x : β) : Nat → β := fun i => if i = k then x else f i
/-- Block b is a map of at most n entries that holds f, among the numbers that matter. -/
def NMap {β : Type} (R : Value → Option (DataW Unit × List MemPlace)) (dat : β → DataW Unit) (z : β) (w : World) (b n : Nat) (f : Nat → β) : Prop := ∃ D, w.ownsMap Try.prog 3 R b n D ∧ Maps.IsMap D ∧ ∀ k : Nat, k ≤ 1000000 → D.atKey (.int .i64 (k : Int)) (dat z) = dat (f k)
section
variable {β : Type} {R : Value → Option (DataW Unit × List MemPlace)} {enc : β → Value} {dat : β → DataW Unit} {z : β} {w : World} {b n : Nat} {f : Nat → β}
theorem NMap.made (w : World) : NMap R dat z (w.alloc (.map #[] 0)) w.heap.size 0 (fun _ => z) :=
  ⟨.map [], World.ownsMap_made w Try.prog 3 R, ⟨[], rfl⟩, fun _ _ => rfl⟩
theorem NMap.lookup (hE : ElR R enc dat) {T E : TypeId} (hu : Try.prog.underlying T = some (.map 3 E)) (hz : ∀ w, (zeroValue E).run Try.prog w = .ok (enc z) w) (h : NMap R dat z w b n f) (k : Nat) (hk : k ≤ 1000000) :
    (Instr.lookup T (.map (some b)) (.int .i64 (k : Int)) false).run Try.prog w = .ok (enc (f k)) w := by
  obtain ⟨D, h1, _, h3⟩ := h
  obtain ⟨v, ps, hrun, hv⟩ := h1.lookup pkeyed hu (hz w) (hE.rd z) (Maps.keyOf_int_mk Try.underlying3 (key_wf hk))
  rw [h3 k hk] at hv
  rw [hrun, hE.inv _ _ _ hv]
theorem NMap.store (hE : ElR R enc dat) {T E : TypeId} (hu : Try.prog.underlying T = some (.map 3 E)) (h : NMap R dat z w b n f) (hn : n ≤ 1000000) (k : Nat) (hk : k ≤ 1000000) (x : β) :
    ∃ w', (Instr.mapUpdate T (.map (some b)) (.int .i64 (k : Int)) (enc x)).run Try.prog w = .ok () w' ∧ NMap R dat z w' b (n + 1) (updN f k x) ∧ w.mapTurned w' b := by
  obtain ⟨D, h1, h2, h3⟩ := h
  obtain ⟨w', hrun, r1, r2⟩ := h1.store pkeyed hu (by unfold maxLen; omega) (Maps.keyOf_int_mk Try.underlying3 (key_wf hk)) (hE.rd x)
  refine ⟨w', hrun, ⟨_, r1, h2.put _ _, fun i hi => ?_⟩, r2⟩
  unfold updN
  by_cases e : i = k
  · subst e; rw [if_pos rfl]; exact Maps.atKey_put_same h2 (show WideAt.IsKeyLit (Lit.int .i64 (i : Int)) from trivial) _ _
  · rw [if_neg e, Maps.atKey_put_other (fun h => e (by simp only [Lit.int.injEq, true_and] at h; omega))]
    exact h3 i hi
theorem NMap.mono {n' : Nat} (h : NMap R dat z w b n f) (hn : n ≤ n') : NMap R dat z w b n' f := by
  obtain ⟨D, h1, h2⟩ := h; exact ⟨D, h1.mono hn, h2⟩
theorem NMap.congr {g : Nat → β} (h : NMap R dat z w b n f) (e : ∀ k, k ≤ 1000000 → f k = g k) : NMap R dat z w b n g := by
  obtain ⟨D, h1, h2, h3⟩ := h; exact ⟨D, h1, h2, fun k hk => by rw [h3 k hk, e k hk]⟩
/-- .. as what a block holds. -/
def mapO (R : Value → Option (DataW Unit × List MemPlace)) (dat : β → DataW Unit) (z : β) (n : Nat) (f : Nat → β) : Obj → Prop := fun o => ∀ (w : World) (b : Nat), w.heap[b]? = some o → NMap R dat z w b n f
theorem NMap.obj (h : NMap R dat z w b n f) : ∃ o, w.heap[b]? = some o ∧ mapO R dat z n f o := by
  obtain ⟨D, ⟨es, c, he, h1⟩, h2⟩ := h
  exact ⟨_, he, fun w' b' hb' => ⟨D, ⟨es, c, hb', h1⟩, h2⟩⟩
theorem mapO_made (w : World) : mapO R dat z 0 (fun _ => z) (.map #[] 0) := by
  obtain ⟨o, ho, hr⟩ := (NMap.made (R := R) (dat := dat) (z := z) w).obj
  rw [heap_alloc_new] at ho
  cases ho
  exact hr
variable {w0 : World} {l : Kn} {s : List SlO}
theorem HH.nmap (h : HH w0 w l s) {k : Nat} (hk : nthO l k = some (b, mapO R dat z n f)) : NMap R dat z w b n f := by
  obtain ⟨_, _, o, ho, hr⟩ := h.obj hk
  exact hr w b ho
theorem HH.mapTurn (h : HH w0 w l s) {k n' : Nat} {f' : Nat → β} {w' : World} (hk : nthO l k = some (b, mapO R dat z n f)) (hm : NMap R dat z w' b n' f') (ht : w.mapTurned w' b) : HH w0 w' (setO l k (b, mapO R dat z n' f')) s := by
  obtain ⟨e1, e2, e3, e4, e5⟩ := mapTurned_block ht
  obtain ⟨o, ho, hr⟩ := hm.obj
  exact h.upd hk e3 e4 e5 (by rw [e1]; exact Nat.le_refl _) (fun i _ hi => e2 i hi) ho hr
theorem HH.mapMono (h : HH w0 w l s) {k n' : Nat} {f' : Nat → β} (hk : nthO l k = some (b, mapO R dat z n f)) (hn : n ≤ n') (e : ∀ k, k ≤ 1000000 → f k = f' k) : HH w0 w (setO l k (b, mapO R dat z n' f')) s := by
  obtain ⟨o, ho, hr⟩ := (((h.nmap hk).mono hn).congr e).obj
  exact h.upd hk rfl rfl rfl (Nat.le_refl _) (fun _ _ _ => rfl) ho hr
end
section
variable {β : Type} {R : Value → Option (DataW Unit × List MemPlace)} {enc : β → Value} {dat : β → DataW Unit} {z : β}
variable {w : World} {ops : Array Oper} {rest : List Oper} {o : Oper} {a : Act} {Q : Exit → Act → World → Prop}
/-- 'm[k]'. -/
theorem wpList_lookup_n (hE : ElR R enc dat) (hg : o.guard = none) (T : TypeId) (m x : Operand) (hop : o.op = Op.lookup T m x false) {E : TypeId} (hu : Try.prog.underlying T = some (.map 3 E)) (hz : ∀ w, (zeroValue E).run Try.prog w = .ok (enc z) w)
    (b n k : Nat) (f : Nat → β) (K : Int) (hm : a.eval m = .map (some b)) (hx : a.eval x = .int .i64 K) (hK : K = (k : Int)) (hk : k ≤ 1000000) (h : NMap R dat z w b n f) (v : β) (hv : f k = v) (ev : Value) (hev : enc v = ev)
    (hC : wpList Try.prog ops Q rest (a.put o.dst ev) w) : wpList Try.prog ops Q (o :: rest) a w := by
  subst hK; subst hv; subst hev
  refine wpList_plain hg fun K' hK' => ?_
  have hrun := h.lookup hE hu hz k hk
  unfold Oper.wp
  simp [execOp, hop, hm, hx, hrun, Result.andThen]
  exact hK' _ _ hC
/-- 'm[k] = x'. -/
theorem wpList_store_n (hE : ElR R enc dat) (hg : o.guard = none) (T : TypeId) (m x y : Operand) (hop : o.op = Op.mapUpdate T m x y) {E : TypeId} (hu : Try.prog.underlying T = some (.map 3 E))
    (b n k : Nat) (f : Nat → β) (v : β) (K : Int) (hm : a.eval m = .map (some b)) (hx : a.eval x = .int .i64 K) (hy : a.eval y = enc v) (hK : K = (k : Int)) (hk : k ≤ 1000000) (h : NMap R dat z w b n f) (hn : n ≤ 1000000)
    (hC : ∀ w', NMap R dat z w' b (n + 1) (updN f k v) → w.mapTurned w' b → wpList Try.prog ops Q rest (a.put o.dst undef) w') : wpList Try.prog ops Q (o :: rest) a w := by
  subst hK
  refine wpList_plain hg fun K' hK' => ?_
  obtain ⟨w', hrun, r1, r2⟩ := h.store hE hu hn k hk v
  unfold Oper.wp
  simp [execOp, hop, hm, hx, hy, hrun, Result.andThen]
  exact hK' _ _ (hC w' r1 r2)
/-- 'make(map[..]..)'. -/
theorem wpList_makeMap_n (hg : o.guard = none) (T : TypeId) (hop : o.op = Op.makeMap T none)
    (hC : wpList Try.prog ops Q rest (a.put o.dst (.map (some w.heap.size))) (w.alloc (.map #[] 0))) : wpList Try.prog ops Q (o :: rest) a w := by
  refine wpList_plain hg fun K' hK' => ?_
  have hrun : (Instr.makeMap T none).run Try.prog w = .ok (.map (some w.heap.size)) (w.alloc (.map #[] 0)) := by
    simp [Instr.makeMap, Result.andThen]
  unfold Oper.wp
  simp [execOp, hop, hrun, Result.andThen]
  exact hK' _ _ hC
end
/-! ### A map literal whose entries are laid in whatever order -/
/-- The world behind one entry. -/
noncomputable def ins1 (T : TypeId) (b : Nat) (k : Nat) (v : Value) (w : World) : World := match (Instr.mapUpdate T (.map (some b)) (.int .i64 (k : Int)) v).run Try.prog w with
  | .ok _ w' => w'
  | _ => w
/-- .. behind the entries of these numbers, the newest first. -/
noncomputable def insL {β : Type} (T : TypeId) (b : Nat) (enc : β → Value) (key : Nat → Nat) (J : Nat → β) (w : World) : List Nat → World
  | [] => w
  | k :: l => ins1 T b (key k) (enc (J (key k))) (insL T b enc key J w l)
section
variable {β : Type} {R : Value → Option (DataW Unit × List MemPlace)} {enc : β → Value} {dat : β → DataW Unit} {z : β} {key : Nat → Nat} {J : Nat → β} {w : World} {b : Nat}
theorem ins1_run (hE : ElR R enc dat) {T E : TypeId} (hu : Try.prog.underlying T = some (.map 3 E)) {n : Nat} {f : Nat → β} (h : NMap R dat z w b n f) (hn : n ≤ 1000000) (k : Nat) (hk : k ≤ 1000000) (x : β) :
    (Instr.mapUpdate T (.map (some b)) (.int .i64 (k : Int)) (enc x)).run Try.prog w = .ok () (ins1 T b k (enc x) w) ∧ NMap R dat z (ins1 T b k (enc x) w) b (n + 1) (updN f k x) ∧ w.mapTurned (ins1 T b k (enc x) w) b := by
  obtain ⟨w', hr, h1, h2⟩ := h.store hE hu hn k hk x
  have : ins1 T b k (enc x) w = w' := by unfold ins1; rw [hr]
  rw [this]
  exact ⟨hr, h1, h2⟩
theorem insL_all (hE : ElR R enc dat) {T E : TypeId} (hu : Try.prog.underlying T = some (.map 3 E)) (hk : ∀ k, key k ≤ 1000000) (h : NMap R dat z w b 0 fun _ => z) {w0 : World} {l0 : Kn} {s : List SlO} {k0 : Nat} {R0 : Obj → Prop} (hH : HH w0 w l0 s) (hk0 : nthO l0 k0 = some (b, R0)) :
    ∀ l : List Nat, l.length ≤ 1000000 → NMap R dat z (insL T b enc key J w l) b l.length (fun x => if x ∈ l.map key then J x else z) ∧ HH w0 (insL T b enc key J w l) (setO l0 k0 (b, fun _ => True)) s := by
  intro l
  induction l with
  | nil =>
    intro _
    obtain ⟨_, _, o, ho, _⟩ := hH.obj hk0
    exact ⟨h.congr fun k _ => by simp, hH.upd hk0 rfl rfl rfl (Nat.le_refl _) (fun _ _ _ => rfl) ho trivial⟩
  | cons k l ih =>
    intro hl
    rw [List.length_cons] at hl
    obtain ⟨i1, i2⟩ := ih (by omega)
    obtain ⟨_, r2, r3⟩ := ins1_run hE hu i1 (by omega) (key k) (hk k) (J (key k))
    refine ⟨r2.congr fun x _ => ?_, ?_⟩
    · show (if x = key k then J (key k) else if x ∈ l.map key then J x else z) = if x ∈ key k :: l.map key then J x else z
      by_cases e : x = key k
      · rw [if_pos e, if_pos (by rw [e]; exact List.mem_cons_self), e]
      · rw [if_neg e]
        by_cases g : x ∈ l.map key
        · rw [if_pos g, if_pos (List.mem_cons_of_mem _ g)]
        · rw [if_neg g, if_neg (fun q => (List.mem_cons.1 q).elim e g)]
    · obtain ⟨e1, e2, e3, e4, e5⟩ := mapTurned_block r3
      obtain ⟨o, ho, _⟩ := r2.obj
      have hk1 : nthO (setO l0 k0 (b, fun _ => True)) k0 = some (b, fun _ => True) := by
        have key : ∀ (l : Kn) (k : Nat) (y : Nat × (Obj → Prop)) (x : Nat × (Obj → Prop)), nthO l k = some x → nthO (setO l k y) k = some y := by
          intro l
          induction l with
          | nil => intro k y x h; cases h
          | cons a l ih =>
            intro k y x h
            cases k with
            | zero => rfl
            | succ k => exact ih k y x h
        exact key _ _ _ _ hk0
      have key2 : ∀ (l : Kn) (k : Nat) (x y : Nat × (Obj → Prop)), setO (setO l k x) k y = setO l k y := by
        intro l
        induction l with
        | nil => intro k x y; rfl
        | cons a l ih =>
          intro k x y
          cases k with
          | zero => rfl
          | succ k => show a :: setO (setO l k x) k y = a :: setO l k y; rw [ih]
      have := i2.upd hk1 (R' := fun _ => True) e3 e4 e5 (by rw [e1]; exact Nat.le_refl _) (fun i _ hi => e2 i hi) ho trivial
      rwa [key2] at this
theorem insL_run (hE : ElR R enc dat) {T E : TypeId} (hu : Try.prog.underlying T = some (.map 3 E)) (hk : ∀ k, key k ≤ 1000000) (h : NMap R dat z w b 0 fun _ => z) {w0 : World} {l0 : Kn} {s : List SlO} {k0 : Nat} {R0 : Obj → Prop} (hH : HH w0 w l0 s) (hk0 : nthO l0 k0 = some (b, R0))
    (l : List Nat) (hl : l.length ≤ 9) (k : Nat) :
    (Instr.mapUpdate T (.map (some b)) (.int .i64 ((key k : Nat) : Int)) (enc (J (key k)))).run Try.prog (insL T b enc key J w l) = .ok () (insL T b enc key J w (k :: l)) :=
  (ins1_run hE hu (insL_all (J := J) hE hu hk h hH hk0 l (by omega)).1 (by omega) (key k) (hk k) (J (key k))).1
end
end Go.Proofs.Ytkopbcehfbmnmaa
