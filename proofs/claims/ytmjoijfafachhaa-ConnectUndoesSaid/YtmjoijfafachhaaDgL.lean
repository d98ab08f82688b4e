/- Lists of diagrams in memory: three cells each; append. -/
import Derived.Test.YtmjoijfafachhaaPartW
namespace Go.Proofs.Ytmjoijfafachhaa
open Go Go.RowKit
abbrev Dgm := List Int × List Int × Int
/-- Numbers that are read; their block is old, or a block of numbers. -/
def TI (w : World) (B0 : Nat) (a : Option Addr) (xs : List Int) : Prop := IntsAt w a xs ∧ ∀ x, a = some x → (x.block < B0 ∧ x.block < w.heap.size) ∨ ∃ cur, w.heap[x.block]? = some (.cells cur 3 (0, 0))
theorem TI.at {w : World} {B0 : Nat} {a : Option Addr} {xs : List Int} (h : TI w B0 a xs) : IntsAt w a xs := h.1
theorem TI.later {w w' : World} {B0 : Nat} {a : Option Addr} {xs : List Int} (h : TI w B0 a xs) (hb : Below w.heap.size w w') : TI w' B0 a xs :=
  ⟨h.1.later hb, fun x hx => by
    rcases h.2 x hx with ⟨g1, g2⟩ | ⟨cur, g⟩
    · exact .inl ⟨g1, Nat.lt_of_lt_of_le g2 hb.size⟩
    · exact .inr ⟨cur, (hb.block _ (lt_of_heap g)).trans g⟩⟩
theorem IntsAt.keptB {w w' : World} {a : Option Addr} {xs : List Int} (h : IntsAt w a xs) (hk : ∀ x, a = some x → w'.heap[x.block]? = w.heap[x.block]?) : IntsAt w' a xs := fun i v hv => by
  obtain ⟨b, off, e, hc⟩ := h i v hv
  refine ⟨b, off, e, ?_⟩
  have := hk _ e
  unfold World.cell? at hc ⊢
  rw [this]; exact hc
theorem TI.kept {w w' : World} {B0 : Nat} {a : Option Addr} {xs : List Int} (h : TI w B0 a xs) (hs : w.heap.size ≤ w'.heap.size) (hk : ∀ x, a = some x → w'.heap[x.block]? = w.heap[x.block]?) : TI w' B0 a xs :=
  ⟨h.1.keptB hk, fun x hx => by
    rcases h.2 x hx with ⟨g1, g2⟩ | ⟨cur, g⟩
    · exact .inl ⟨g1, Nat.lt_of_lt_of_le g2 hs⟩
    · exact .inr ⟨cur, (hk x hx).trans g⟩⟩
/-- A list of another type that turns leaves it alone. -/
theorem TI.turned {w w' : World} {B0 B : Nat} {a : Option Addr} {xs : List Int} (h : TI w B0 a xs) {E : TypeId} {A : Option Addr} {c : Nat} {vs : List Value} (hE : E ≠ 3) (hB : B0 ≤ B) (hA : Own w B E A c vs) (ht : Turned w w' A) : TI w' B0 a xs :=
  h.kept ht.size fun x hx => by
    have hlt : x.block < w.heap.size := by
      rcases h.2 x hx with ⟨_, g⟩ | ⟨cur, g⟩
      · exact g
      · exact lt_of_heap g
    refine ht.block _ hlt fun y hy e => ?_
    have hl := (hA.lt hy).1
    rcases h.2 x hx with ⟨g, _⟩ | ⟨cur, g⟩
    · omega
    · rcases hA with ⟨e0, _⟩ | ⟨b, off, cur2, e1, _, e2, _⟩
      · rw [e0] at hy; cases hy
      · rw [e1] at hy; cases hy
        have e : b = x.block := e
        rw [← e, e2] at g
        simp only [Option.some.injEq, Obj.cells.injEq] at g
        exact hE g.2.1
theorem TI.own {w : World} {B B0 : Nat} {a : Option Addr} {c : Nat} {xs : List Int} (h : Own w B 3 a c (ints xs)) : TI w B0 a xs := ⟨h.ints, fun x hx => by
  rcases h with ⟨e, _⟩ | ⟨b, off, cur, e, _, g, _⟩
  · rw [e] at hx; cases hx
  · rw [e] at hx; cases hx
    exact .inr ⟨cur, g⟩⟩
theorem TI.nil (w : World) (B0 : Nat) : TI w B0 none [] := ⟨IntsAt.nil _ _, fun _ h => by cases h⟩
/-- The cells hold these diagrams. -/
def CellsOf (w : World) (B0 : Nat) (vs : List Value) (ds : List Dgm) : Prop := vs.length = ds.length * 3 ∧ ∀ (i : Nat) (d : Dgm), ds[i]? = some d → ∃ a c b e, vs[i * 3]? = some (.slice a d.1.length c) ∧ vs[i * 3 + 1]? = some (.slice b d.2.1.length e) ∧ vs[i * 3 + 2]? = some (.int .i64 d.2.2) ∧ TI w B0 a d.1 ∧ TI w B0 b d.2.1
theorem CellsOf.nil (w : World) (B0 : Nat) : CellsOf w B0 [] [] := ⟨rfl, fun i d h => by simp at h⟩
theorem CellsOf.later {w w' : World} {B0 : Nat} {vs : List Value} {ds : List Dgm} (h : CellsOf w B0 vs ds) (hb : Below w.heap.size w w') : CellsOf w' B0 vs ds := ⟨h.1, fun i d hd => by
  obtain ⟨a, c, b, e, h1, h2, h3, h4, h5⟩ := h.2 i d hd
  exact ⟨a, c, b, e, h1, h2, h3, h4.later hb, h5.later hb⟩⟩
theorem CellsOf.turned {w w' : World} {B0 B : Nat} {vs : List Value} {ds : List Dgm} (h : CellsOf w B0 vs ds) {E : TypeId} {A : Option Addr} {c : Nat} {us : List Value} (hE : E ≠ 3) (hB : B0 ≤ B) (hA : Own w B E A c us) (ht : Turned w w' A) : CellsOf w' B0 vs ds := ⟨h.1, fun i d hd => by
  obtain ⟨a, c, b, e, h1, h2, h3, h4, h5⟩ := h.2 i d hd
  exact ⟨a, c, b, e, h1, h2, h3, h4.turned hE hB hA ht, h5.turned hE hB hA ht⟩⟩
theorem CellsOf.append {w : World} {B0 : Nat} {vs us : List Value} {ds es : List Dgm} (h : CellsOf w B0 vs ds) (g : CellsOf w B0 us es) : CellsOf w B0 (vs ++ us) (ds ++ es) := ⟨by rw [List.length_append, List.length_append, h.1, g.1]; omega, fun i d hd => by
  rcases Nat.lt_or_ge i ds.length with k | k
  · rw [List.getElem?_append_left k] at hd
    obtain ⟨a, c, b, e, h1, h2, h3, h4, h5⟩ := h.2 i d hd
    have hl := h.1
    exact ⟨a, c, b, e, by rw [List.getElem?_append_left (by omega)]; exact h1, by rw [List.getElem?_append_left (by omega)]; exact h2, by rw [List.getElem?_append_left (by omega)]; exact h3, h4, h5⟩
  · rw [List.getElem?_append_right k] at hd
    obtain ⟨a, c, b, e, h1, h2, h3, h4, h5⟩ := g.2 _ d hd
    have hl := h.1
    have e0 : (i - ds.length) * 3 = i * 3 - ds.length * 3 := Nat.sub_mul _ _ _
    exact ⟨a, c, b, e, by rw [List.getElem?_append_right (by omega), show i * 3 - vs.length = (i - ds.length) * 3 by omega]; exact h1, by rw [List.getElem?_append_right (by omega), show i * 3 + 1 - vs.length = (i - ds.length) * 3 + 1 by omega]; exact h2, by rw [List.getElem?_append_right (by omega), show i * 3 + 2 - vs.length = (i - ds.length) * 3 + 2 by omega]; exact h3, h4, h5⟩⟩
theorem CellsOf.one {w : World} {B0 : Nat} {a b : Option Addr} {c e : Nat} {S M : List Int} {L : Int} (h1 : TI w B0 a S) (h2 : TI w B0 b M) : CellsOf w B0 [.slice a S.length c, .slice b M.length e, .int .i64 L] [(S, M, L)] := ⟨rfl, fun i d hd => by
  cases i with
  | zero => cases hd; exact ⟨a, c, b, e, rfl, rfl, rfl, h1, h2⟩
  | succ i => simp at hd⟩
/-- A list of diagrams of the call's own. -/
def DLO (w : World) (B B0 : Nat) (A : Option Addr) (C : Nat) (ds : List Dgm) : Prop := ∃ vs, Own w B 24 A (C * 3) vs ∧ ds.length ≤ C ∧ CellsOf w B0 vs ds
theorem DLO.mono {w : World} {B B' B0 : Nat} {A : Option Addr} {C : Nat} {ds : List Dgm} (h : DLO w B B0 A C ds) (hB : B' ≤ B) : DLO w B' B0 A C ds := by
  obtain ⟨vs, h1, h2, h3⟩ := h
  exact ⟨vs, h1.mono hB, h2, h3⟩
theorem DLO.later {w w' : World} {B B0 : Nat} {A : Option Addr} {C : Nat} {ds : List Dgm} (h : DLO w B B0 A C ds) (hb : Below w.heap.size w w') : DLO w' B B0 A C ds := by
  obtain ⟨vs, h1, h2, h3⟩ := h
  exact ⟨vs, h1.later hb (Nat.le_refl _), h2, h3.later hb⟩
/-- One diagram of it. -/
theorem DLO.open {w : World} {B B0 : Nat} {A : Option Addr} {C : Nat} {ds : List Dgm} (h : DLO w B B0 A C ds) (h0 : 0 < ds.length) : ∃ b off, A = some ⟨b, off, none⟩ ∧ ∀ (i : Nat) (d : Dgm), ds[i]? = some d → ∃ a c b' e, w.cell? ⟨b, off + i * 3, none⟩ = some (.slice a d.1.length c) ∧ w.cell? ⟨b, off + i * 3 + 1, none⟩ = some (.slice b' d.2.1.length e) ∧ w.cell? ⟨b, off + i * 3 + 2, none⟩ = some (.int .i64 d.2.2) ∧ TI w B0 a d.1 ∧ TI w B0 b' d.2.1 := by
  obtain ⟨vs, h1, h2, h3, h4⟩ := h
  obtain ⟨b, off, rfl, _, _, hc, _⟩ := h1.open (by omega)
  refine ⟨b, off, rfl, fun i d hd => ?_⟩
  obtain ⟨a, c, b', e, g1, g2, g3, g4, g5⟩ := h4 i d hd
  exact ⟨a, c, b', e, hc _ _ g1, by rw [Nat.add_assoc]; exact hc _ _ g2, by rw [Nat.add_assoc]; exact hc _ _ g3, g4, g5⟩
section
variable {P : Program} {ops : Array Oper} {Q : Exit → Act → World → Prop} {o : Oper} {rest : List Oper} {a : Act} {w : World}
/-- Append of elements of k cells. -/
theorem wpList_append_wide (hg : o.guard = none) (s x : Operand) (t tx : TypeId) (hop : o.op = .call { callee := .builtin .append, args := #[s, x], argTypes := #[t, tx] })
    (B : Nat) (E : TypeId) (i : TypeInfo) (z : Value) (bytes k : Nat) (h1 : P.underlying t = some (.slice E)) (h1x : P.underlying tx = some (.slice E)) (h2 : P.info? E = some i) (h3 : i.zero = some z) (h4 : i.size = k) (hk : 0 < k) (h5 : i.bytes = bytes) (hz : z.cells.size = k)
    (A : Option Addr) (n c : Nat) (vs : List Value) (hs : a.eval s = .slice A n c) (hn : vs.length = n * k) (hnc : n ≤ c) (hown : Own w B E A (c * k) vs) (ax : Option Addr) (m cx : Nat) (us : List Value) (hx : a.eval x = .slice ax m cx) (hm : us.length = m * k) (hus : VAt w ax us) (hu1 : ∀ u ∈ us, u.oneCell' = true)
    (hbytes : (n + m) * bytes ≤ 140737488355328) (h63 : n + m ≤ 9223372036854775807) (hB : B ≤ w.heap.size)
    (hK : ∀ A' c' w', n + m ≤ c' → Own w' B E A' (c' * k) (vs ++ us) → Turned w w' A → (∀ x, A' = some x → (w.heap.size ≤ x.block ∨ ∃ y, A = some y ∧ x = y)) → wpList P ops Q rest (a.put o.dst (.slice A' (n + m) c')) w') :
    wpList P ops Q (o :: rest) a w := by
  refine wpList_plain hg fun K hK' => ?_
  obtain ⟨a', c', w', hrun, r0, r1, r2, r3⟩ := run_append_wide (P := P) w B t tx o.type E i z bytes k h1 h1x h2 h3 h4 hk h5 hz A n c vs hn hnc hown ax m cx us hm hus hu1 hbytes h63 hB
  unfold Oper.wp
  simp [execOp, hop, resolve, invoke, builtin, hs, hx, hrun, Result.andThen]
  exact hK' _ _ (hK a' c' w' r0 r1 r2 r3)
end
theorem Try.info24 : (Try.prog.info? 24).map (fun i => (i.zero, i.size, i.bytes)) = some (some (.agg #[.slice none 0 0, .slice none 0 0, .int .i64 0]), 3, 56) := by kernel_rfl
theorem Try.info45 : (Try.prog.info? 45).map (fun i => (i.zero, i.size, i.bytes)) = some (some (.agg #[.int .i64 0, .int .i64 0]), 2, 16) := by kernel_rfl
end Go.Proofs.Ytmjoijfafachhaa
