/- Slices of slices that are read; append of many; slicing; make: laws for the walks. No condition; nothing of the program but its types stands here. -/
import Derived.Test.YtlgiponfcmeiiaaDoorHeap
import Derived.Test.YtlgiponfcmeiiaaDoorProg
import Derived.Deep.Matrix
import Derived.Deep.DeepCutAuto
import Derived.Deep.RegionLaw
import Derived.Deep.RegionHeld3
namespace Go.Proofs.YtlgiponfcmeiiaaDoor
open Go Go.RowKit
/-! ### Cells set one by one in a row -/
theorem heap_setCells_row (b : Nat) (E : TypeId) : ∀ (us : List Value) (o : Nat) (w : World) (cur : Array Value), w.heap[b]? = some (.cells cur E (0, 0)) → o + us.length ≤ cur.size →
    ∃ cur', (w.setCells b o us).heap[b]? = some (.cells cur' E (0, 0)) ∧ cur'.size = cur.size ∧ ∀ j, cur'[j]? = if o ≤ j ∧ j < o + us.length then us[j - o]? else cur[j]?
  | [], o, w, cur, h, _ => ⟨cur, h, rfl, fun j => by rw [if_neg (by simp)]⟩
  | u :: us, o, w, cur, h, hl => by
    simp only [List.length_cons] at hl
    obtain ⟨cur', h1, h2, h3⟩ := heap_setCells_row b E us (o + 1) (w.setCell ⟨b, o, none⟩ u) (cur.setIfInBounds o u) (heap_setCell_same w b o cur E u h) (by simp; omega)
    refine ⟨cur', h1, by rw [h2]; simp, fun j => ?_⟩
    rw [h3 j, Array.getElem?_setIfInBounds]
    simp only [List.length_cons]
    by_cases e : o = j
    · subst e
      rw [if_neg (by omega), if_pos rfl, if_pos (by omega), if_pos (by omega)]
      simp
    · rw [if_neg e]
      by_cases g : o + 1 ≤ j ∧ j < o + 1 + us.length
      · rw [if_pos g, if_pos (by omega), show j - o = (j - (o + 1)) + 1 from by omega, List.getElem?_cons_succ]
      · rw [if_neg g, if_neg (by omega)]
theorem size_setCells (b : Nat) : ∀ (us : List Value) (o : Nat) (w : World), (w.setCells b o us).heap.size = w.heap.size ∧ (w.setCells b o us).os = w.os ∧ (w.setCells b o us).tape = w.tape ∧ (w.setCells b o us).output = w.output ∧ ∀ k, k ≠ b → (w.setCells b o us).heap[k]? = w.heap[k]?
  | [], _, _ => ⟨rfl, rfl, rfl, rfl, fun _ _ => rfl⟩
  | u :: us, o, w => by
    obtain ⟨h1, h2, h3, h4, h5⟩ := size_setCells b us (o + 1) (w.setCell ⟨b, o, none⟩ u)
    exact ⟨h1.trans (by simp), h2, h3, h4, fun k hk => (h5 k hk).trans (heap_setCell_other w ⟨b, o, none⟩ k u hk)⟩
/-- 'append(s, xs...)', s the call's own; xs numbers that are read. -/
theorem run_append_many {P : Program} (w : World) (B : Nat) (t tx ty E : TypeId) (i : TypeInfo) (z : Value) (bytes : Nat) (h1 : P.underlying t = some (.slice E)) (h1x : P.underlying tx = some (.slice E)) (h2 : P.info? E = some i) (h3 : i.zero = some z) (h4 : i.size = 1) (h5 : i.bytes = bytes) (hz : z.cells.size = 1)
    (a : Option Addr) (c : Nat) (vs : List Value) (hown : Own w B E a c vs) (ax : Option Addr) (cx : Nat) (us : List Value) (hus : VAt w ax us) (hu1 : ∀ u ∈ us, u.oneCell' = true)
    (hbytes : (vs.length + us.length) * bytes ≤ 140737488355328) (h63 : vs.length + us.length ≤ 9223372036854775807) (hB : B ≤ w.heap.size) :
    ∃ a' c' w', (Builtin.append_ #[t, tx] ty #[.slice a vs.length c, .slice ax us.length cx]).run P w = .ok (.slice a' (vs.length + us.length) c') w' ∧ Own w' B E a' c' (vs ++ us) ∧ Turned w w' a ∧
      (∀ x, a' = some x → (w.heap.size ≤ x.block ∨ ∃ y, a = some y ∧ x = y)) := by
  have hs : Src P i.size tx (.slice ax us.length cx) us.length us w := by
    cases ax with
    | none =>
      have : us = [] := by
        cases us with
        | nil => rfl
        | cons u us => obtain ⟨_, _, h, _⟩ := hus 0 u rfl; cases h
      subst this
      exact Src.ofNil w h1x cx
    | some ad =>
      refine Src.ofSlice w h1x ad us.length cx us (by rw [h4, Nat.mul_one]) (fun j v hj => ?_) hu1
      obtain ⟨b, off, he, hc⟩ := hus j v hj
      cases he
      rw [Addr.add_lit]; exact hc
  subst h5
  by_cases hroom : vs.length + us.length ≤ c
  · rcases hown with ⟨rfl, rfl, rfl⟩ | ⟨b, off, cur, rfl, g2, g3, g4, g5, g6⟩
    · have h0 : us = [] := List.eq_nil_of_length_eq_zero (by simpa using hroom)
      subst h0
      have hr : (Builtin.append_ #[t, tx] ty #[.slice none 0 0, .slice ax 0 cx]).run P w = .ok (.slice none 0 0) w := by
        have hl := hs.len
        have hc := hs.cells
        simp only [List.length_nil] at hl hc
        simp [Builtin.append_, run_underlying h1, run_underlying h1x, sizeOf, typeInfo, h2, hl, hc]
      exact ⟨none, 0, w, hr, Own.nil _ _ _, ⟨rfl, rfl, rfl, Nat.le_refl _, fun _ _ _ => rfl⟩, fun x hx => by cases hx⟩
    · have hcell : ∀ j, j < us.length → (w.cell? ⟨b, off + vs.length * i.size + j, none⟩).isSome = true := by
        intro j hj
        rw [cell_of_row w b _ cur E (0, 0) g3]
        have : off + vs.length * i.size + j < cur.size := by rw [h4]; omega
        simp [this]
      have hr := run_append_room_src (P := P) w t tx ty E i h1 h2 b off vs.length c (.slice ax us.length cx) us.length us hs hroom hcell (fun j _ => frozen_of_row w b _ cur E g3)
      rw [h4, Nat.mul_one] at hr
      obtain ⟨cur', k1, k2, k3⟩ := heap_setCells_row b E us (off + vs.length) w cur g3 (by omega)
      obtain ⟨s1, s2, s3, s4, s5⟩ := size_setCells b us (off + vs.length) w
      refine ⟨_, _, _, hr, ?_, ⟨s2, s3, s4, by omega, fun k _ hk => s5 k (fun e => hk _ rfl e.symm)⟩, fun x hx => .inr ⟨_, rfl, (by simpa using hx.symm)⟩⟩
      refine .inr ⟨b, off, cur', rfl, g2, k1, by rw [List.length_append]; exact hroom, by omega, fun j v hj => ?_⟩
      rw [k3, List.getElem?_append] at *
      split at hj
      · rename_i hlt
        rw [if_neg (by omega)]; exact g6 j v hj
      · rename_i hge
        have hjl := (List.getElem?_eq_some_iff.1 hj).1
        rw [if_pos (by omega), show off + j - (off + vs.length) = j - vs.length from by omega]
        exact hj
  · have hold : ∃ ys : List Value, ys = vs ∧ (Builtin.firstCells i.size vs.length (.slice a vs.length c)).run P w.drew = .ok ys.toArray w.drew := by
      rcases hown with ⟨rfl, rfl, rfl⟩ | ⟨b, off, cur, rfl, g2, g3, g4, g5, g6⟩
      · exact ⟨[], rfl, run_firstCells_none _ _ _ _ _⟩
      · refine ⟨vs, rfl, run_firstCells_some w.drew i.size vs.length ⟨b, off, none⟩ vs.length c vs (by simp [h4]) (fun j v hj => ?_)⟩
        rw [Addr.add_lit]
        show w.cell? ⟨b, off + j, none⟩ = some v
        rw [cell_of_row w b _ cur E (0, 0) g3]
        exact g6 j v hj
    obtain ⟨ys, rfl, holds⟩ := hold
    have hcl := hown.size
    have hr := run_append_grow_src (P := P) w t tx ty E i z h1 h2 h3 a ys.length c ys holds (.slice ax us.length cx) us.length us hs (by omega) (by omega) (growslice_fits (by omega) hbytes)
    refine ⟨_, _, _, hr, ?_, ⟨rfl, rfl, rfl, by simp, fun k hk _ => Below.heap_alloc w.drew _ k hk⟩, fun x hx => by simp only [Option.some.injEq] at hx; subst hx; exact .inl (Nat.le_refl _)⟩
    have hge := grownCap_ge w (ys.length + us.length) c E
    refine .inr ⟨_, 0, _, rfl, by simpa using hB, heap_alloc_new w.drew _, by rw [List.length_append]; exact hge, ?_, ?_⟩
    · simp [size_zeroCells, hz]; omega
    · intro j v hj
      have hlt : j < (ys ++ us).length := (List.getElem?_eq_some_iff.1 hj).1
      rw [Nat.zero_add, Array.getElem?_append_left (by simpa using hlt)]
      simpa using hj
/-! ### Slicing -/
def fromA (A : Option Addr) (i c : Nat) : Option Addr := if c = i then A else A.map (·.add (i * 1))
def toA (A : Option Addr) (c : Nat) : Option Addr := if c = 0 then A else A.map (·.add (0 * 1))
theorem IntsAt.from {w : World} {A : Option Addr} {zs : List Int} (h : IntsAt w A zs) {i c : Nat} (hc : zs.length ≤ c) : IntsAt w (fromA A i c) (zs.drop i) := by
  unfold fromA
  by_cases e : c = i
  · rw [if_pos e, List.drop_eq_nil_of_le (by omega)]; exact IntsAt.nil _ _
  · rw [if_neg e]
    intro j v hj
    rw [← ints_drop, List.getElem?_drop] at hj
    obtain ⟨b, off, rfl, hv⟩ := h (i + j) v hj
    exact ⟨b, off + i, by rw [Option.map_some, Addr.add_lit, Nat.mul_one], by rw [Nat.add_assoc]; exact hv⟩
theorem IntsAt.to {w : World} {A : Option Addr} {zs : List Int} (h : IntsAt w A zs) {i c : Nat} : IntsAt w (toA A c) (zs.take i) := by
  have hh : IntsAt w A (zs.take i) := fun j v hj => by
    have hjl := (List.getElem?_eq_some_iff.1 hj).1
    rw [ints_length, List.length_take] at hjl
    rw [ints_get _ _ (by rw [List.length_take]; exact hjl)] at hj
    refine h j v ?_
    rw [ints_get _ _ (by omega), ← hj]
    have : nth (zs.take i) j = nth zs j := by unfold nth; rw [List.getD_eq_getElem?_getD, List.getD_eq_getElem?_getD, List.getElem?_take_of_lt (by omega)]
    rw [this]
  unfold toA
  by_cases e : c = 0
  · rw [if_pos e]; exact hh
  · rw [if_neg e]
    intro j v hj
    obtain ⟨b, off, rfl, hv⟩ := hh j v hj
    exact ⟨b, off, by rw [Option.map_some, Addr.add_lit, Nat.zero_mul, Nat.add_zero], hv⟩
section
variable {P : Program} {w : World} {ops : Array Oper} {rest : List Oper} {o : Oper} {a : Act} {Q : Exit → Act → World → Prop}
theorem run_from {t E : TypeId} {i : TypeInfo} (h1 : P.underlying t = some (.slice E)) (h2 : P.info? E = some i) (h4 : i.size = 1) (A : Option Addr) (n c k : Nat) (hk : k ≤ n) (w : World) :
    (Instr.sliceAt t (.slice A n c) (some (.int .i64 (k : Int))) none none).run P w = .ok (.slice (fromA A k c) (n - k) (c - k)) w := by
  have he : P.elem t = E := by simp [Program.elem, h1]
  have h1' : P.underlying t = some (.slice (P.elem t)) := by rw [he]; exact h1
  have hs : (sizeOf (P.elem t)).run P w = .ok 1 w := by rw [he]; simp [sizeOf, typeInfo, h2, h4]
  have hr := run_slice_l (P := P) w t A n c h1' .i64 (k : Int) (by omega) (by omega)
  rw [hs] at hr
  rw [run_sliceAt_slice (P := P) w t _ _ _ _ h1', hr]
  simp [Result.andThen, sliced, fromA]
theorem run_to {t E : TypeId} {i : TypeInfo} (h1 : P.underlying t = some (.slice E)) (h2 : P.info? E = some i) (h4 : i.size = 1) (A : Option Addr) (n c k : Nat) (hk : k ≤ c) (w : World) :
    (Instr.sliceAt t (.slice A n c) none (some (.int .i64 (k : Int))) none).run P w = .ok (.slice (toA A c) k c) w := by
  have he : P.elem t = E := by simp [Program.elem, h1]
  have h1' : P.underlying t = some (.slice (P.elem t)) := by rw [he]; exact h1
  have hs : (sizeOf (P.elem t)).run P w = .ok 1 w := by rw [he]; simp [sizeOf, typeInfo, h2, h4]
  have hr := run_slice_h (P := P) w t A n c h1' .i64 (k : Int) (by omega) (by omega)
  rw [hs] at hr
  rw [run_sliceAt_slice (P := P) w t _ _ _ _ h1', hr]
  simp [Result.andThen, sliced, toA]
theorem run_from' {t E : TypeId} {i : TypeInfo} (h1 : P.underlying t = some (.slice E)) (h2 : P.info? E = some i) (h4 : i.size = 1) (A : Option Addr) (n c k : Nat) (hk : k ≤ n) (w : World) :
    (Instr.slice t (.slice A n c) (some (.int .i64 (k : Int))) none none).run P w = .ok (.slice (fromA A k c) (n - k) (c - k)) w := by
  have h1' : P.underlying t = some (.slice (P.elem t)) := by rw [show P.elem t = E by simp [Program.elem, h1]]; exact h1
  rw [← run_sliceAt_slice (P := P) w t _ _ _ _ h1', run_from h1 h2 h4 A n c k hk w]
theorem run_to' {t E : TypeId} {i : TypeInfo} (h1 : P.underlying t = some (.slice E)) (h2 : P.info? E = some i) (h4 : i.size = 1) (A : Option Addr) (n c k : Nat) (hk : k ≤ c) (w : World) :
    (Instr.slice t (.slice A n c) none (some (.int .i64 (k : Int))) none).run P w = .ok (.slice (toA A c) k c) w := by
  have h1' : P.underlying t = some (.slice (P.elem t)) := by rw [show P.elem t = E by simp [Program.elem, h1]]; exact h1
  rw [← run_sliceAt_slice (P := P) w t _ _ _ _ h1', run_to h1 h2 h4 A n c k hk w]
/-- 's[k:]' as an arm of the walk. -/
theorem wpList_from (hg : o.guard = none) (t : TypeId) (x l : Operand) (hop : o.op = Op.slice t x (some l) none none) {E : TypeId} {i : TypeInfo} (h1 : P.underlying t = some (.slice E)) (h2 : P.info? E = some i) (h4 : i.size = 1)
    (A : Option Addr) (n c k : Nat) (hx : a.eval x = .slice A n c) (hl : a.eval l = .int .i64 (k : Int)) (hk : k ≤ n)
    (hK : wpList P ops Q rest (a.put o.dst (.slice (fromA A k c) (n - k) (c - k))) w) : wpList P ops Q (o :: rest) a w := by
  refine wpList_plain hg fun K hK' => ?_
  have hr2 := run_from (P := P) h1 h2 h4 A n c k hk w
  unfold Oper.wp
  simp only [execOp, hop, hx, hl, Option.map_some, Option.map_none, Sem.run_bind, hr2, Result.andThen]
  exact hK' _ _ hK
/-- A builtin call of append whose run is known, as an arm of the walk. -/
theorem wpList_append_run (hg : o.guard = none) (s x : Operand) (ts : Array TypeId) (hop : o.op = .call { callee := .builtin .append, args := #[s, x], argTypes := ts }) (vs vx v : Value) (w' : World)
    (hs : a.eval s = vs) (hx : a.eval x = vx) (hrun : (Builtin.append_ ts o.type #[vs, vx]).run P w = .ok v w') (hK : wpList P ops Q rest (a.put o.dst v) w') : wpList P ops Q (o :: rest) a w := by
  refine wpList_plain hg fun K hK' => ?_
  unfold Oper.wp
  simp [execOp, hop, resolve, invoke, builtin, hs, hx, hrun, Result.andThen]
  exact hK' _ _ hK
end
/-! ### Slices of slices that are read -/
/-- Behind the address a lie the rows of a table (read only). -/
def TabAt (w : World) (a : Option Addr) (T : List (List Int)) : Prop :=
  ∀ (i : Nat) (row : List Int), T[i]? = some row → ∃ b off a' c', a = some ⟨b, off, none⟩ ∧ w.cell? ⟨b, off + i, none⟩ = some (.slice a' row.length c') ∧ row.length ≤ c' ∧ IntsAt w a' row
theorem TabAt.open {w : World} {a : Option Addr} {T : List (List Int)} (h : TabAt w a T) (hl : 0 < T.length) :
    ∃ b off, a = some ⟨b, off, none⟩ ∧ b < w.heap.size ∧ ∀ (i : Nat) (row : List Int), T[i]? = some row → ∃ a' c', w.cell? ⟨b, off + i, none⟩ = some (.slice a' row.length c') ∧ row.length ≤ c' ∧ IntsAt w a' row := by
  obtain ⟨b, off, a0, c0, rfl, h0, _⟩ := h 0 _ (List.getElem?_eq_getElem hl)
  refine ⟨b, off, rfl, World.block_lt_of_cell? _ _ h0, fun i row hi => ?_⟩
  obtain ⟨b', off', a', c', he, hc, hr⟩ := h i row hi
  simp only [Option.some.injEq, Addr.mk.injEq, and_true] at he
  obtain ⟨rfl, rfl⟩ := he
  exact ⟨a', c', hc, hr⟩
theorem TabAt.later {w w' : World} {a : Option Addr} {T : List (List Int)} (h : TabAt w a T) (hb : Below w.heap.size w w') : TabAt w' a T := fun i row hi => by
  obtain ⟨b, off, a', c', he, hc, hl, hr⟩ := h i row hi
  exact ⟨b, off, a', c', he, (hb.cell (p := ⟨b, off + i, none⟩) (World.block_lt_of_cell? w _ hc)).trans hc, hl, hr.later hb⟩
theorem TabAt.nil (w : World) (a : Option Addr) : TabAt w a [] := fun i row h => by simp at h
theorem OwnRows.tab {w : World} {B : Nat} {a : Option Addr} {c : Nat} {xss : List (List Int)} (h : OwnRows w B a c xss) : TabAt w a xss := fun i row hi => by
  obtain ⟨b, off, rfl, _, _, hF⟩ := h.open (by have := (List.getElem?_eq_some_iff.1 hi).1; omega)
  obtain ⟨a', c', h1, h2⟩ := hF i row hi
  refine ⟨b, off, a', c', rfl, h1, ?_, h2.ints⟩
  have := h2.size
  rwa [ints_length] at this
/-- Slice values of rows that are read: where each reads as a row. -/
def RowsAt (w : World) (vs : List Value) (T : List (List Int)) : Prop := vs.length = T.length ∧ ∀ (i : Nat) (v : Value) (row : List Int), vs[i]? = some v → T[i]? = some row → ∃ a c, v = .slice a row.length c ∧ row.length ≤ c ∧ IntsAt w a row
theorem RowsAt.later {w w' : World} {vs : List Value} {T : List (List Int)} (h : RowsAt w vs T) (hb : Below w.heap.size w w') : RowsAt w' vs T :=
  ⟨h.1, fun i v row h1 h2 => by obtain ⟨a, c, e, hl, hr⟩ := h.2 i v row h1 h2; exact ⟨a, c, e, hl, hr.later hb⟩⟩
theorem RowsAt.tab {w : World} {vs : List Value} {T : List (List Int)} (h : RowsAt w vs T) {a : Option Addr} (ha : VAt w a vs) : TabAt w a T := fun i row hi => by
  have hl := (List.getElem?_eq_some_iff.1 hi).1
  have hv := List.getElem?_eq_getElem (l := vs) (i := i) (by rw [h.1]; exact hl)
  obtain ⟨b, off, rfl, hc⟩ := ha i _ hv
  obtain ⟨a', c', e, h1, h2⟩ := h.2 i _ row hv hi
  exact ⟨b, off, a', c', rfl, by rw [hc, e], h1, h2⟩
theorem TabAt.rows {w : World} {a : Option Addr} {T : List (List Int)} (h : TabAt w a T) : ∃ vs, RowsAt w vs T ∧ VAt w a vs := by
  have : ∀ i, i < T.length → ∃ v, ∃ row, T[i]? = some row ∧ (∃ b off, a = some ⟨b, off, none⟩ ∧ w.cell? ⟨b, off + i, none⟩ = some v) ∧ ∃ a' c', v = .slice a' row.length c' ∧ row.length ≤ c' ∧ IntsAt w a' row := fun i hi => by
    obtain ⟨b, off, a', c', h1, h2, h3⟩ := h i _ (List.getElem?_eq_getElem hi)
    exact ⟨_, _, List.getElem?_eq_getElem hi, ⟨b, off, h1, h2⟩, a', c', rfl, h3⟩
  obtain ⟨f, hf⟩ := Go.Deep.choose_lt this
  refine ⟨(List.range T.length).map f, ⟨by simp, fun i v row h1 h2 => ?_⟩, fun i v h1 => ?_⟩
  · have hi := (List.getElem?_eq_some_iff.1 h2).1
    obtain ⟨row', e1, _, a', c', e2, e3⟩ := hf i hi
    rw [h2] at e1
    cases e1
    simp [hi] at h1
    subst h1
    exact ⟨a', c', e2, e3⟩
  · have hi := (List.getElem?_eq_some_iff.1 h1).1
    simp at hi
    simp [hi] at h1
    subst h1
    obtain ⟨_, _, h2, _⟩ := hf i hi
    exact h2
theorem RowsAt.snoc {w : World} {vs : List Value} {T : List (List Int)} (h : RowsAt w vs T) {a : Option Addr} {c : Nat} {row : List Int} (hl : row.length ≤ c) (hr : IntsAt w a row) : RowsAt w (vs ++ [.slice a row.length c]) (T ++ [row]) := by
  refine ⟨by simp [h.1], fun i v ys h1 h2 => ?_⟩
  rcases Nat.lt_or_ge i vs.length with hi | hi
  · rw [List.getElem?_append_left hi] at h1
    rw [List.getElem?_append_left (by rw [← h.1]; exact hi)] at h2
    exact h.2 i v ys h1 h2
  · rw [List.getElem?_append_right hi] at h1
    rw [List.getElem?_append_right (by rw [← h.1]; exact hi), ← h.1] at h2
    cases hj : i - vs.length with
    | zero =>
      simp [hj] at h1 h2
      subst h1; subst h2
      exact ⟨a, c, rfl, hl, hr⟩
    | succ j => simp [hj] at h1
/-! ### make -/
theorem Tryd.info3 : (Tryd.prog.info? 3).map (fun i => (i.zero, i.size, i.bytes)) = some (some (.int .i64 0), 1, 8) := by kernel_rfl
theorem Tryd.info4 : (Tryd.prog.info? 4).map (fun i => (i.zero, i.size, i.bytes)) = some (some (.bool false), 1, 1) := by kernel_rfl
theorem Tryd.info36 : (Tryd.prog.info? 36).map (fun i => (i.zero, i.size, i.bytes)) = some (some (.slice none 0 0), 1, 24) := by kernel_rfl
theorem replicate_ints (n : Nat) : (Array.replicate n (Value.int .i64 0)).toList = ints (List.replicate n 0) := by simp [ints]
theorem replicate_bools (n : Nat) : (Array.replicate n (Value.bool false)).toList = bools (List.replicate n false) := by simp [bools]
theorem run_mk1 {T E : TypeId} {z : Value} {bytes : Nat} (hu : Tryd.prog.underlying T = some (.slice E)) (hi : (Tryd.prog.info? E).map (fun i => (i.zero, i.size, i.bytes)) = some (some z, 1, bytes)) (hz : z.cells = #[z]) (n c : Nat) (hnc : n ≤ c) (hb : bytes ≤ 24) (hn : c ≤ 1000000000) (W : World) :
    (Instr.makeSlice T (.int .i64 (n : Int)) (.int .i64 (c : Int))).run Tryd.prog W = .ok (.slice (some ⟨W.heap.size, 0, none⟩) n c) (W.alloc (.cells (Array.replicate c z) E)) := by
  obtain ⟨i0, hi0, hz0, hz1, hz2⟩ := info_parts hi
  have hbb : (bytes : Int) * (c : Int) ≤ 281474976710656 := by
    have h : bytes * c ≤ 24 * 1000000000 := Nat.mul_le_mul hb hn
    have h2 : ((bytes * c : Nat) : Int) ≤ 281474976710656 := by omega
    rwa [Int.natCast_mul] at h2
  have hr := run_make (P := Tryd.prog) W T E i0 z hu hi0 hz0 .i64 .i64 n c (by omega) (by omega) (by rw [hz2]; exact hbb) (by omega)
  simp only [Int.toNat_natCast, hz1, Nat.mul_one] at hr
  have hm : madeCells z.cells c = Array.replicate c z := by
    apply Array.ext'
    rw [hz, toList_madeCells_one, Array.toList_replicate]
  rw [hm] at hr
  exact hr
end Go.Proofs.YtlgiponfcmeiiaaDoor
