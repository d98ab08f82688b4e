/- Own words and laws for the walks of this seat: slices that are read, slices that are owned, contracts' endings. No condition; nothing of the program stands here. -/
import Derived.WalkKit
import Derived.WalkSpells
import Derived.WalkLawsBesides
import Derived.Deep.AppendSrc
import Derived.Deep.LoopGhost
import Derived.Deep.QuietTactic
import Derived.Deep.RegionWith
import Derived.Deep.DeepMust
import Derived.Deep.DeepFit
import Derived.BigQuiet
import Derived.Lib.Hide
import Derived.Outline
namespace Go.Proofs.YtmhhjchnjaefhaaDoor
open Go Go.RowKit

theorem ret_bool {a b : Bool} (h : a = b) : Ending.returned (.bool a) = .returned (.bool b) := by rw [h]
theorem ret_int {k : IntKind} {a b : Int} (h : a = b) : Ending.returned (.int k a) = .returned (.int k b) := by rw [h]
/-- The element at a place; 0 behind the end. (A plain def: simp does not open it.) -/
def nth (l : List Int) (i : Nat) : Int := l.getD i 0
/-- Numbers as values. -/
def ints (l : List Int) : List Value := l.map (Value.int .i64)
theorem ints_length (l : List Int) : (ints l).length = l.length := by simp [ints]
theorem ints_get (l : List Int) (i : Nat) (h : i < l.length) : (ints l)[i]? = some (.int .i64 (nth l i)) := by simp [ints, nth, h]
theorem ints_set (l : List Int) (i : Nat) (x : Int) : (ints l).set i (.int .i64 x) = ints (l.set i x) := by simp [ints, List.map_set]
theorem ints_snoc (l : List Int) (x : Int) : ints l ++ [.int .i64 x] = ints (l ++ [x]) := by simp [ints]
theorem ints_drop (l : List Int) (k : Nat) : (ints l).drop k = ints (l.drop k) := by simp [ints]
theorem nth_set (l : List Int) (i j : Nat) (x : Int) (h : i < l.length) : nth (l.set i x) j = if i = j then x else nth l j := by
  unfold nth
  rw [List.getD_eq_getElem?_getD, List.getD_eq_getElem?_getD, List.getElem?_set]
  by_cases e : i = j
  · subst e; simp [h]
  · simp [e]
theorem nth_out (l : List Int) (i : Nat) (h : l.length ≤ i) : nth l i = 0 := by simp [nth, h]
theorem nth_append_left (l r : List Int) (i : Nat) (h : i < l.length) : nth (l ++ r) i = nth l i := by simp [nth, List.getElem?_append_left h]
theorem nth_append_right (l r : List Int) (i : Nat) (h : l.length ≤ i) : nth (l ++ r) i = nth r (i - l.length) := by simp [nth, List.getElem?_append_right h]
theorem nth_mem (l : List Int) (i : Nat) (h : i < l.length) : nth l i ∈ l := by simp [nth, h]
theorem mem_nth {l : List Int} {x : Int} (h : x ∈ l) : ∃ i, i < l.length ∧ nth l i = x := by
  obtain ⟨i, hi, rfl⟩ := List.getElem_of_mem h
  exact ⟨i, hi, by simp [nth, hi]⟩
theorem ext_nth {l r : List Int} (h : l.length = r.length) (hn : ∀ i, i < l.length → nth l i = nth r i) : l = r := by
  apply List.ext_getElem h
  intro i h1 h2
  have := hn i h1
  simpa [nth, h1, h2] using this

/-- Behind the address a (nil where nothing is read) lie these values, one cell each. -/
def VAt (w : World) (a : Option Addr) (vs : List Value) : Prop :=
  ∀ i v, vs[i]? = some v → ∃ b off, a = some ⟨b, off, none⟩ ∧ w.cell? ⟨b, off + i, none⟩ = some v
/-- .. these numbers. -/
def IntsAt (w : World) (a : Option Addr) (xs : List Int) : Prop := VAt w a (ints xs)
theorem VAt.open {w : World} {a : Option Addr} {vs : List Value} (h : VAt w a vs) (hl : 0 < vs.length) :
    ∃ b off, a = some ⟨b, off, none⟩ ∧ b < w.heap.size ∧ ∀ i v, vs[i]? = some v → w.cell? ⟨b, off + i, none⟩ = some v := by
  obtain ⟨b, off, rfl, h0⟩ := h 0 _ (List.getElem?_eq_getElem hl)
  refine ⟨b, off, rfl, World.block_lt_of_cell? _ _ h0, fun i v hi => ?_⟩
  obtain ⟨b', off', he, hc⟩ := h i v hi
  simp only [Option.some.injEq, Addr.mk.injEq, and_true] at he
  obtain ⟨rfl, rfl⟩ := he
  exact hc
theorem IntsAt.open {w : World} {a : Option Addr} {xs : List Int} (h : IntsAt w a xs) (hl : 0 < xs.length) :
    ∃ b off, a = some ⟨b, off, none⟩ ∧ b < w.heap.size ∧ ∀ i, i < xs.length → w.cell? ⟨b, off + i, none⟩ = some (.int .i64 (nth xs i)) := by
  obtain ⟨b, off, rfl, hb, hc⟩ := VAt.open h (by rw [ints_length]; exact hl)
  exact ⟨b, off, rfl, hb, fun i hi => hc i _ (ints_get xs i hi)⟩
theorem VAt.nil (w : World) (a : Option Addr) : VAt w a [] := fun i v h => by simp at h
theorem IntsAt.nil (w : World) (a : Option Addr) : IntsAt w a [] := VAt.nil w a
/-- It reads so in every later world that left the old blocks alone. -/
theorem VAt.later {w w' : World} {a : Option Addr} {vs : List Value} (h : VAt w a vs) (hb : Below w.heap.size w w') : VAt w' a vs := by
  intro i v hi
  obtain ⟨b, off, he, hc⟩ := h i v hi
  exact ⟨b, off, he, (hb.cell (p := ⟨b, off + i, none⟩) (World.block_lt_of_cell? w _ hc)).trans hc⟩
theorem IntsAt.later {w w' : World} {a : Option Addr} {xs : List Int} (h : IntsAt w a xs) (hb : Below w.heap.size w w') : IntsAt w' a xs := VAt.later h hb
theorem below_drewNN {B : Nat} {a w : World} (h : Below B a w) (n : Nat) : Below B a (w.drewN n) := ⟨h.os, h.tape, h.output, h.size, h.block⟩
/-- Two steps, the second of which speaks of its own start. -/
theorem below_step {w w1 w2 : World} (h : Below w.heap.size w w1) (k : Below w1.heap.size w1 w2) : Below w.heap.size w w2 := h.trans (k.mono h.size)
theorem below_of {B : Nat} {w w1 w2 : World} (h : Below B w w1) (k : Below w1.heap.size w1 w2) (hB : B ≤ w1.heap.size) : Below B w w2 := h.trans (k.mono hB)

/-- The slice value (a, length, c) of one-cell elements of type E holds vs, in a block from B on, of which no cell is frozen. -/
def Own (w : World) (B : Nat) (E : TypeId) (a : Option Addr) (c : Nat) (vs : List Value) : Prop :=
  (a = none ∧ vs = [] ∧ c = 0) ∨
  ∃ b off cur, a = some ⟨b, off, none⟩ ∧ B ≤ b ∧ w.heap[b]? = some (.cells cur E (0, 0)) ∧ vs.length ≤ c ∧ off + c ≤ cur.size ∧ ∀ i v, vs[i]? = some v → cur[off + i]? = some v
theorem Own.nil (w : World) (B : Nat) (E : TypeId) : Own w B E none 0 [] := .inl ⟨rfl, rfl, rfl⟩
theorem Own.lt {w : World} {B : Nat} {E : TypeId} {a : Option Addr} {c : Nat} {vs : List Value} (h : Own w B E a c vs) {x : Addr} (hx : a = some x) : B ≤ x.block ∧ x.block < w.heap.size := by
  rcases h with ⟨rfl, _⟩ | ⟨b, off, cur, rfl, hB, hb, _⟩
  · cases hx
  · cases hx; exact ⟨hB, (Array.getElem?_eq_some_iff.1 hb).1⟩
theorem Own.at {w : World} {B : Nat} {E : TypeId} {a : Option Addr} {c : Nat} {vs : List Value} (h : Own w B E a c vs) : VAt w a vs := by
  intro i v hi
  rcases h with ⟨_, rfl, _⟩ | ⟨b, off, cur, rfl, _, hb, _, _, hc⟩
  · simp at hi
  · exact ⟨b, off, rfl, by rw [cell_of_row w b (off + i) cur E (0, 0) hb]; exact hc i v hi⟩
theorem Own.mono {w : World} {B B' : Nat} {E : TypeId} {a : Option Addr} {c : Nat} {vs : List Value} (h : Own w B E a c vs) (hB : B' ≤ B) : Own w B' E a c vs := by
  rcases h with h | ⟨b, off, cur, h1, h2, h3⟩
  · exact .inl h
  · exact .inr ⟨b, off, cur, h1, Nat.le_trans hB h2, h3⟩
/-- What a step must leave alone. -/
theorem Own.kept {w w' : World} {B : Nat} {E : TypeId} {a : Option Addr} {c : Nat} {vs : List Value} (h : Own w B E a c vs) (hk : ∀ x, a = some x → w'.heap[x.block]? = w.heap[x.block]?) : Own w' B E a c vs := by
  rcases h with h | ⟨b, off, cur, rfl, h2, h3, h4⟩
  · exact .inl h
  · exact .inr ⟨b, off, cur, rfl, h2, (hk _ rfl).trans h3, h4⟩
theorem Own.alloc {w : World} {B : Nat} {E : TypeId} {a : Option Addr} {c : Nat} {vs : List Value} (h : Own w B E a c vs) (o : Obj) : Own (w.alloc o) B E a c vs :=
  h.kept fun x hx => Below.heap_alloc w o x.block (h.lt hx).2
theorem Own.later {w w' : World} {B B' : Nat} {E : TypeId} {a : Option Addr} {c : Nat} {vs : List Value} (h : Own w B E a c vs) (hb : Below B' w w') (hB : w.heap.size ≤ B') : Own w' B E a c vs :=
  h.kept fun x hx => hb.block x.block (Nat.lt_of_lt_of_le (h.lt hx).2 hB)
theorem Own.open {w : World} {B : Nat} {E : TypeId} {a : Option Addr} {c : Nat} {vs : List Value} (h : Own w B E a c vs) (hl : 0 < vs.length) :
    ∃ b off, a = some ⟨b, off, none⟩ ∧ B ≤ b ∧ b < w.heap.size ∧ (∀ i v, vs[i]? = some v → w.cell? ⟨b, off + i, none⟩ = some v) ∧ ∀ i, w.frozen? ⟨b, i, none⟩ = false := by
  have hat := h.at
  rcases h with ⟨_, rfl, _⟩ | ⟨b, off, cur, rfl, h2, h3, h4⟩
  · simp at hl
  · obtain ⟨b', off', he, _, hc⟩ := hat.open hl
    simp only [Option.some.injEq, Addr.mk.injEq, and_true] at he
    obtain ⟨rfl, rfl⟩ := he
    exact ⟨b, off, rfl, h2, (Array.getElem?_eq_some_iff.1 h3).1, hc, fun i => frozen_of_row w b i cur E h3⟩
theorem Own.set {w : World} {B : Nat} {E : TypeId} {b off c : Nat} {vs : List Value} (h : Own w B E (some ⟨b, off, none⟩) c vs) (i : Nat) (hi : i < vs.length) (u : Value) :
    Own (w.setCell ⟨b, off + i, none⟩ u) B E (some ⟨b, off, none⟩) c (vs.set i u) := by
  rcases h with ⟨h, _⟩ | ⟨b', off', cur, he, h2, h3, h4, h5, h6⟩
  · cases h
  · simp only [Option.some.injEq, Addr.mk.injEq, and_true] at he
    obtain ⟨rfl, rfl⟩ := he
    refine .inr ⟨b, off, cur.setIfInBounds (off + i) u, rfl, h2, heap_setCell_same w b (off + i) cur E u h3, by simpa using h4, by simpa using h5, ?_⟩
    intro j v hj
    rw [List.getElem?_set] at hj
    rw [Array.getElem?_setIfInBounds]
    by_cases e : i = j
    · subst e
      have : off + i < cur.size := by omega
      simp [this]
      simpa [hi] using hj
    · simp [e] at hj
      rw [if_neg (by omega)]
      exact h6 j v hj
/-- 's[1:]'. -/
theorem Own.tail {w : World} {B : Nat} {E : TypeId} {b off c : Nat} {vs : List Value} (h : Own w B E (some ⟨b, off, none⟩) c vs) (hl : 0 < vs.length) :
    Own w B E (some (if c = 1 then ⟨b, off, none⟩ else ⟨b, off + 1, none⟩)) (c - 1) (vs.drop 1) := by
  rcases h with ⟨h, _⟩ | ⟨b', off', cur, he, h2, h3, h4, h5, h6⟩
  · cases h
  · simp only [Option.some.injEq, Addr.mk.injEq, and_true] at he
    obtain ⟨rfl, rfl⟩ := he
    by_cases e : c = 1
    · rw [if_pos e]
      have hl1 : vs.length = 1 := by omega
      refine .inr ⟨b, off, cur, rfl, h2, h3, by simp; omega, by omega, fun i v hi => ?_⟩
      rw [List.drop_eq_nil_of_le (by omega)] at hi
      simp at hi
    · rw [if_neg e]
      refine .inr ⟨b, off + 1, cur, rfl, h2, h3, by simp; omega, by omega, fun i v hi => ?_⟩
      rw [List.getElem?_drop] at hi
      have := h6 _ _ hi
      rwa [show off + (1 + i) = off + 1 + i from by omega] at this
/-- A new row. -/
theorem Own.made {w : World} {B : Nat} {E : TypeId} (cs : Array Value) (hB : B ≤ w.heap.size) : Own (w.alloc (.cells cs E)) B E (some ⟨w.heap.size, 0, none⟩) cs.size cs.toList := by
  refine .inr ⟨_, 0, cs, rfl, hB, heap_alloc_new w _, by simp, by simp, fun i v hi => ?_⟩
  simpa using hi
theorem Own.size {w : World} {B : Nat} {E : TypeId} {a : Option Addr} {c : Nat} {vs : List Value} (h : Own w B E a c vs) : vs.length ≤ c := by
  rcases h with ⟨_, rfl, _⟩ | ⟨b, off, cur, h1, h2, h3, h4, _⟩
  · simp
  · exact h4

/-- One of the call's own rows may have been written (the one at this address), the others stand. -/
structure Turned (w w' : World) (a : Option Addr) : Prop where
  os : w'.os = w.os
  tape : w'.tape = w.tape
  output : w'.output = w.output
  size : w.heap.size ≤ w'.heap.size
  block : ∀ k, k < w.heap.size → (∀ x, a = some x → x.block ≠ k) → w'.heap[k]? = w.heap[k]?
theorem Turned.below {w w' : World} {a : Option Addr} {B : Nat} (h : Turned w w' a) (hB : B ≤ w.heap.size) (hk : ∀ x, a = some x → B ≤ x.block) : Below B w w' :=
  ⟨h.os, h.tape, h.output, h.size, fun k hk' => h.block k (by omega) (fun x hx => by have := hk x hx; omega)⟩

/-- 'append(s, x)', s the call's own. -/
theorem run_append_one {P : Program} (w : World) (B : Nat) (t ty E : TypeId) (i : TypeInfo) (z : Value) (bytes : Nat) (h1 : P.underlying t = some (.slice E)) (h2 : P.info? E = some i) (h3 : i.zero = some z) (h4 : i.size = 1) (h5 : i.bytes = bytes) (hz : z.cells.size = 1)
    (a : Option Addr) (c : Nat) (vs : List Value) (hown : Own w B E a c vs) (ad : Addr) (m' : Nat) (u : Value) (hu : w.cell? ad = some u) (hu1 : u.oneCell' = true)
    (hbytes : (vs.length + 1) * bytes ≤ 140737488355328) (h63 : vs.length + 1 ≤ 9223372036854775807) (hB : B ≤ w.heap.size) :
    ∃ a' c' w', (Builtin.append_ #[t, t] ty #[.slice a vs.length c, .slice (some ad) 1 m']).run P w = .ok (.slice a' (vs.length + 1) c') w' ∧ Own w' B E a' c' (vs ++ [u]) ∧ Turned w w' a ∧
      (∀ x, a' = some x → (w.heap.size ≤ x.block ∨ ∃ y, a = some y ∧ x = y)) := by
  have hs : Src P i.size t (.slice (some ad) 1 m') 1 [u] w := by
    refine Src.ofSlice w h1 ad 1 m' [u] (by simp [h4]) (fun j v hj => ?_) (fun v hv => by simp at hv; subst hv; exact hu1)
    cases j with
    | zero => simp at hj; subst hj; simpa [Addr.add] using hu
    | succ j => simp at hj
  subst h5
  rcases hown with ⟨rfl, rfl, rfl⟩ | ⟨b, off, cur, rfl, g2, g3, g4, g5, g6⟩
  · have hr := run_append_grow_src (P := P) w t t ty E i z h1 h2 h3 none 0 0 [] (run_firstCells_none _ _ _ _ _) (.slice (some ad) 1 m') 1 [u] hs (by omega) (by omega) (growslice_fits (by omega) (by simpa using hbytes))
    refine ⟨_, _, _, hr, ?_, ⟨rfl, rfl, rfl, by simp, fun k hk _ => Below.heap_alloc w.drew _ k hk⟩, fun x hx => by simp only [Option.some.injEq] at hx; subst hx; exact .inl (Nat.le_refl _)⟩
    refine .inr ⟨_, 0, _, rfl, by simpa using hB, heap_alloc_new w.drew _, ?_, ?_, ?_⟩
    · simpa using grownCap_ge w 1 0 E
    · have := grownCap_ge w 1 0 E
      simp [size_zeroCells, hz]; omega
    · intro j v hj
      cases j with
      | zero => simp at hj; subst hj; simp [Array.getElem?_append]
      | succ j => simp at hj
  · by_cases hroom : vs.length + 1 ≤ c
    · have hcell : ∀ j, j < [u].length → (w.cell? ⟨b, off + vs.length * i.size + j, none⟩).isSome = true := by
        intro j hj
        rw [cell_of_row w b _ cur E (0, 0) g3]
        simp at hj; subst hj
        have : off + vs.length * i.size < cur.size := by rw [h4]; omega
        simp [this]
      have hr := run_append_room_src (P := P) w t t ty E i h1 h2 b off vs.length c (.slice (some ad) 1 m') 1 [u] hs hroom hcell (fun j _ => frozen_of_row w b _ cur E g3)
      rw [h4, Nat.mul_one] at hr
      refine ⟨_, _, _, hr, ?_, ?_, fun x hx => .inr ⟨_, rfl, (by simpa using hx.symm)⟩⟩
      · refine .inr ⟨b, off, cur.setIfInBounds (off + vs.length) u, rfl, g2, heap_setCell_same w b _ cur E u g3, by simpa using hroom, by simpa using g5, ?_⟩
        intro j v hj
        rw [Array.getElem?_setIfInBounds]
        by_cases e : vs.length = j
        · subst e
          simp at hj; subst hj
          have : off + vs.length < cur.size := by omega
          simp [this]
        · rw [if_neg (by omega)]
          rw [List.getElem?_append] at hj
          split at hj
          · exact g6 j v hj
          · have : j - vs.length ≠ 0 := by omega
            cases hn : j - vs.length with
            | zero => omega
            | succ m => simp [hn] at hj
      · refine ⟨rfl, rfl, rfl, by simp [World.setCells], fun k _ hk => heap_setCell_other w ⟨b, off + vs.length, none⟩ k u ?_⟩
        have := hk _ rfl
        simpa using fun e => this e.symm
    · have holds : (Builtin.firstCells i.size vs.length (.slice (some ⟨b, off, none⟩) vs.length c)).run P w.drew = .ok vs.toArray w.drew := by
        refine run_firstCells_some w.drew i.size vs.length ⟨b, off, none⟩ vs.length c vs (by simp [h4]) (fun j v hj => ?_)
        rw [Addr.add_lit]
        show w.cell? ⟨b, off + j, none⟩ = some v
        rw [cell_of_row w b _ cur E (0, 0) g3]
        exact g6 j v hj
      have hr := run_append_grow_src (P := P) w t t ty E i z h1 h2 h3 (some ⟨b, off, none⟩) vs.length c vs holds (.slice (some ad) 1 m') 1 [u] hs (by omega) (by omega) (growslice_fits (by omega) hbytes)
      refine ⟨_, _, _, hr, ?_, ⟨rfl, rfl, rfl, by simp, fun k hk _ => Below.heap_alloc w.drew _ k hk⟩, fun x hx => by simp only [Option.some.injEq] at hx; subst hx; exact .inl (Nat.le_refl _)⟩
      refine .inr ⟨_, 0, _, rfl, by simpa using hB, heap_alloc_new w.drew _, ?_, ?_, ?_⟩
      · simpa using grownCap_ge w (vs.length + 1) c E
      · have := grownCap_ge w (vs.length + 1) c E
        simp [size_zeroCells, hz]; omega
      · intro j v hj
        have hlt : j < (vs ++ [u]).length := by
          rcases Nat.lt_or_ge j (vs ++ [u]).length with h | h
          · exact h
          · simp [List.getElem?_eq_none h] at hj
        rw [Nat.zero_add, Array.getElem?_append_left (by simpa using hlt)]
        simpa using hj

/-- Block b is a row of these cells (type E), none frozen. -/
def Row (w : World) (b : Nat) (E : TypeId) (vs : List Value) : Prop := w.heap[b]? = some (.cells vs.toArray E (0, 0))
theorem Row.lt {w : World} {b : Nat} {E : TypeId} {vs : List Value} (h : Row w b E vs) : b < w.heap.size := (Array.getElem?_eq_some_iff.1 h).1
theorem Row.cell {w : World} {b : Nat} {E : TypeId} {vs : List Value} (h : Row w b E vs) (i : Nat) : w.cell? ⟨b, i, none⟩ = vs[i]? := by
  rw [cell_of_row w b i _ E (0, 0) h]; simp
theorem Row.int {w : World} {b : Nat} {E : TypeId} {xs : List Int} (h : Row w b E (ints xs)) (i : Nat) (hi : i < xs.length) : w.cell? ⟨b, i, none⟩ = some (.int .i64 (nth xs i)) := by
  rw [h.cell, ints_get xs i hi]
theorem Row.frozen {w : World} {b : Nat} {E : TypeId} {vs : List Value} (h : Row w b E vs) (i : Nat) : w.frozen? ⟨b, i, none⟩ = false := frozen_of_row w b i _ E h
theorem Row.set {w : World} {b : Nat} {E : TypeId} {vs : List Value} (h : Row w b E vs) (i : Nat) (u : Value) : Row (w.setCell ⟨b, i, none⟩ u) b E (vs.set i u) := by
  have := heap_setCell_same w b i _ E u h
  unfold Row
  rw [this]
  simp
theorem Row.setInt {w : World} {b : Nat} {E : TypeId} {xs : List Int} (h : Row w b E (ints xs)) (i : Nat) (x : Int) : Row (w.setCell ⟨b, i, none⟩ (.int .i64 x)) b E (ints (xs.set i x)) := by
  have := h.set i (.int .i64 x)
  rwa [ints_set] at this
theorem Row.kept {w w' : World} {b : Nat} {E : TypeId} {vs : List Value} (h : Row w b E vs) (hk : w'.heap[b]? = w.heap[b]?) : Row w' b E vs := hk.trans h
theorem Row.alloc {w : World} {b : Nat} {E : TypeId} {vs : List Value} (h : Row w b E vs) (o : Obj) : Row (w.alloc o) b E vs := h.kept (Below.heap_alloc w o b h.lt)
theorem Row.setOther {w : World} {b : Nat} {E : TypeId} {vs : List Value} (h : Row w b E vs) (x : Addr) (u : Value) (hx : b ≠ x.block) : Row (w.setCell x u) b E vs := h.kept (Below.heap_setCell w x u b hx)
theorem Row.later {w w' : World} {b B : Nat} {E : TypeId} {vs : List Value} (h : Row w b E vs) (hb : Below B w w') (hB : b < B) : Row w' b E vs := h.kept (hb.block b hB)
theorem Row.turned {w w' : World} {b : Nat} {E : TypeId} {vs : List Value} {a : Option Addr} (h : Row w b E vs) (ht : Turned w w' a) (ha : ∀ x, a = some x → x.block ≠ b) : Row w' b E vs := h.kept (ht.block b h.lt ha)
theorem Row.new (w : World) (vs : Array Value) (E : TypeId) : Row (w.alloc (.cells vs E)) w.heap.size E vs.toList := by
  unfold Row; rw [Array.toArray_toList]; exact heap_alloc_new w _
theorem Row.own {w : World} {b B : Nat} {E : TypeId} {vs : List Value} (h : Row w b E vs) (hB : B ≤ b) : Own w B E (some ⟨b, 0, none⟩) vs.length vs :=
  .inr ⟨b, 0, vs.toArray, rfl, hB, h, Nat.le_refl _, by simp, fun i v hv => by simpa using hv⟩
theorem Row.at {w : World} {b : Nat} {E : TypeId} {vs : List Value} (h : Row w b E vs) : VAt w (some ⟨b, 0, none⟩) vs := (h.own (Nat.zero_le _)).at

/-- Truth values as values. -/
def bools (l : List Bool) : List Value := l.map Value.bool
/-- The truth value at a place; false behind the end. -/
def bth (l : List Bool) (i : Nat) : Bool := l.getD i false
theorem bools_get (l : List Bool) (i : Nat) (h : i < l.length) : (bools l)[i]? = some (.bool (bth l i)) := by simp [bools, bth, h]
theorem bools_set (l : List Bool) (i : Nat) (x : Bool) : (bools l).set i (.bool x) = bools (l.set i x) := by simp [bools, List.map_set]
theorem bth_set (l : List Bool) (i j : Nat) (x : Bool) (h : i < l.length) : bth (l.set i x) j = if i = j then x else bth l j := by
  unfold bth
  rw [List.getD_eq_getElem?_getD, List.getD_eq_getElem?_getD, List.getElem?_set]
  by_cases e : i = j
  · subst e; simp [h]
  · simp [e]
theorem Row.bool {w : World} {b : Nat} {E : TypeId} {xs : List Bool} (h : Row w b E (bools xs)) (i : Nat) (hi : i < xs.length) : w.cell? ⟨b, i, none⟩ = some (.bool (bth xs i)) := by
  rw [h.cell, bools_get xs i hi]
theorem Row.setBool {w : World} {b : Nat} {E : TypeId} {xs : List Bool} (h : Row w b E (bools xs)) (i : Nat) (x : Bool) : Row (w.setCell ⟨b, i, none⟩ (.bool x)) b E (bools (xs.set i x)) := by
  have := h.set i (.bool x)
  rwa [bools_set] at this

/-- The rows of vs read as xss, each owned. -/
def RowsOf (w : World) (B : Nat) (vs : List Value) (xss : List (List Int)) : Prop :=
  vs.length = xss.length ∧ ∀ (i : Nat) (v : Value) (xs : List Int), vs[i]? = some v → xss[i]? = some xs → ∃ a c, v = .slice a xs.length c ∧ Own w B 3 a c (ints xs)
/-- .. and so is the slice of them. -/
def OwnRows (w : World) (B : Nat) (a : Option Addr) (c : Nat) (xss : List (List Int)) : Prop := ∃ vs, Own w B 22 a c vs ∧ RowsOf w B vs xss
theorem RowsOf.kept {w w' : World} {B : Nat} {vs : List Value} {xss : List (List Int)} (h : RowsOf w B vs xss) (hk : ∀ (b : Nat) (cur : Array Value), w.heap[b]? = some (.cells cur 3 (0, 0)) → w'.heap[b]? = w.heap[b]?) : RowsOf w' B vs xss := by
  refine ⟨h.1, fun i v xs h1 h2 => ?_⟩
  obtain ⟨a, c, hv, ho⟩ := h.2 i v xs h1 h2
  refine ⟨a, c, hv, ?_⟩
  rcases ho with ho | ⟨b, off, cur, rfl, g2, g3, g4⟩
  · exact .inl ho
  · exact .inr ⟨b, off, cur, rfl, g2, (hk b cur g3).trans g3, g4⟩
theorem Own.keptT {w w' : World} {B : Nat} {E : TypeId} {a : Option Addr} {c : Nat} {vs : List Value} (h : Own w B E a c vs) (hk : ∀ (b : Nat) (cur : Array Value), w.heap[b]? = some (.cells cur E (0, 0)) → w'.heap[b]? = w.heap[b]?) : Own w' B E a c vs := by
  rcases h with ho | ⟨b, off, cur, rfl, g2, g3, g4⟩
  · exact .inl ho
  · exact .inr ⟨b, off, cur, rfl, g2, (hk b cur g3).trans g3, g4⟩
theorem OwnRows.kept {w w' : World} {B : Nat} {a : Option Addr} {c : Nat} {xss : List (List Int)} (h : OwnRows w B a c xss) (hk : ∀ (b : Nat) (cur : Array Value) (E : TypeId), E = 3 ∨ E = 22 → w.heap[b]? = some (.cells cur E (0, 0)) → w'.heap[b]? = w.heap[b]?) : OwnRows w' B a c xss := by
  obtain ⟨vs, h1, h2⟩ := h
  exact ⟨vs, h1.keptT (fun b cur hb => hk b cur 22 (.inr rfl) hb), h2.kept (fun b cur hb => hk b cur 3 (.inl rfl) hb)⟩
theorem lt_of_heap {w : World} {b : Nat} {o : Obj} (h : w.heap[b]? = some o) : b < w.heap.size := (Array.getElem?_eq_some_iff.1 h).1
theorem OwnRows.later {w w' : World} {B B' : Nat} {a : Option Addr} {c : Nat} {xss : List (List Int)} (h : OwnRows w B a c xss) (hb : Below B' w w') (hB : w.heap.size ≤ B') : OwnRows w' B a c xss :=
  h.kept fun b _ _ _ h => hb.block b (Nat.lt_of_lt_of_le (lt_of_heap h) hB)
theorem RowsOf.later {w w' : World} {B B' : Nat} {vs : List Value} {xss : List (List Int)} (h : RowsOf w B vs xss) (hb : Below B' w w') (hB : w.heap.size ≤ B') : RowsOf w' B vs xss :=
  h.kept fun b _ h => hb.block b (Nat.lt_of_lt_of_le (lt_of_heap h) hB)
theorem OwnRows.alloc {w : World} {B : Nat} {a : Option Addr} {c : Nat} {xss : List (List Int)} (h : OwnRows w B a c xss) (o : Obj) : OwnRows (w.alloc o) B a c xss :=
  h.kept fun b _ _ _ h => Below.heap_alloc w o b (lt_of_heap h)
/-- A store into a row of another type. -/
theorem OwnRows.setOther {w : World} {B b : Nat} {E : TypeId} {ws : List Value} {a : Option Addr} {c : Nat} {xss : List (List Int)} (h : OwnRows w B a c xss) (hr : Row w b E ws) (h3 : E ≠ 3) (h22 : E ≠ 22) (i : Nat) (u : Value) :
    OwnRows (w.setCell ⟨b, i, none⟩ u) B a c xss := by
  refine h.kept fun b' cur E' hE hb' => Below.heap_setCell w ⟨b, i, none⟩ u b' ?_
  intro e
  simp only at e
  subst e
  unfold Row at hr
  rw [hr] at hb'
  simp only [Option.some.injEq, Obj.cells.injEq] at hb'
  rcases hE with rfl | rfl
  · exact h3 hb'.2.1
  · exact h22 hb'.2.1
theorem Own.setOther {w : World} {B b : Nat} {E E' : TypeId} {ws : List Value} {a : Option Addr} {c : Nat} {vs : List Value} (h : Own w B E' a c vs) (hr : Row w b E ws) (h3 : E ≠ E') (i : Nat) (u : Value) :
    Own (w.setCell ⟨b, i, none⟩ u) B E' a c vs := by
  refine h.keptT fun b' cur hb' => Below.heap_setCell w ⟨b, i, none⟩ u b' ?_
  intro e
  simp only at e
  subst e
  unfold Row at hr
  rw [hr] at hb'
  simp only [Option.some.injEq, Obj.cells.injEq] at hb'
  exact h3 hb'.2.1
theorem OwnRows.nil (w : World) (B : Nat) : OwnRows w B none 0 [] := ⟨[], Own.nil w B 22, rfl, fun i v xs h => by simp at h⟩
theorem OwnRows.mono {w : World} {B B' : Nat} {a : Option Addr} {c : Nat} {xss : List (List Int)} (h : OwnRows w B a c xss) (hB : B' ≤ B) : OwnRows w B' a c xss := by
  obtain ⟨vs, h1, h2, h3⟩ := h
  refine ⟨vs, h1.mono hB, h2, fun i v xs h4 h5 => ?_⟩
  obtain ⟨a, c, h6, h7⟩ := h3 i v xs h4 h5
  exact ⟨a, c, h6, h7.mono hB⟩
theorem OwnRows.len {w : World} {B : Nat} {a : Option Addr} {c : Nat} {xss : List (List Int)} (h : OwnRows w B a c xss) : xss.length ≤ c := by
  obtain ⟨vs, h1, h2, _⟩ := h
  rw [← h2]; exact h1.size
/-- One row more: behind the append of its value. -/
theorem RowsOf.snoc {w : World} {B : Nat} {vs : List Value} {xss : List (List Int)} (h : RowsOf w B vs xss) {a : Option Addr} {c : Nat} {xs : List Int} (ho : Own w B 3 a c (ints xs)) : RowsOf w B (vs ++ [.slice a xs.length c]) (xss ++ [xs]) := by
  refine ⟨by simp [h.1], fun i v ys h1 h2 => ?_⟩
  rcases Nat.lt_or_ge i vs.length with hi | hi
  · rw [List.getElem?_append_left hi] at h1
    rw [List.getElem?_append_left (by rw [← h.1]; exact hi)] at h2
    exact h.2 i v ys h1 h2
  · rw [List.getElem?_append_right hi] at h1
    rw [List.getElem?_append_right (by rw [← h.1]; exact hi), ← h.1] at h2
    cases hj : i - vs.length with
    | zero =>
      simp [hj] at h1 h2
      subst h1; subst h2
      exact ⟨a, c, rfl, ho⟩
    | succ j => simp [hj] at h1
/-- The rows' cells, for whoever reads them. -/
theorem OwnRows.open {w : World} {B : Nat} {a : Option Addr} {c : Nat} {xss : List (List Int)} (h : OwnRows w B a c xss) (hl : 0 < xss.length) :
    ∃ b off, a = some ⟨b, off, none⟩ ∧ B ≤ b ∧ b < w.heap.size ∧ ∀ (i : Nat) (xs : List Int), xss[i]? = some xs → ∃ a' c', w.cell? ⟨b, off + i, none⟩ = some (.slice a' xs.length c') ∧ Own w B 3 a' c' (ints xs) := by
  obtain ⟨vs, h1, h2, h3⟩ := h
  obtain ⟨b, off, rfl, hB, hlt, hc, _⟩ := h1.open (by rw [h2]; exact hl)
  refine ⟨b, off, rfl, hB, hlt, fun i xs hx => ?_⟩
  have hi : i < xss.length := (List.getElem?_eq_some_iff.1 hx).1
  obtain ⟨a', c', hv, ho⟩ := h3 i _ xs (List.getElem?_eq_getElem (by rw [h2]; exact hi)) hx
  exact ⟨a', c', (hc i _ (List.getElem?_eq_getElem (by rw [h2]; exact hi))).trans (by rw [hv]), ho⟩
/-- An owned row of numbers reads as numbers. -/
theorem Own.ints {w : World} {B : Nat} {a : Option Addr} {c : Nat} {xs : List Int} (h : Own w B 3 a c (ints xs)) : IntsAt w a xs := h.at
/-- Rows of different element types are different blocks. -/
theorem Own.ne {w : World} {B : Nat} {E E' : TypeId} {A : Option Addr} {c : Nat} {vs : List Value} (h : Own w B E A c vs) {b : Nat} {cur : Array Value} (hb : w.heap[b]? = some (.cells cur E' (0, 0))) (hE : E ≠ E') (x : Addr) (hx : A = some x) : x.block ≠ b := by
  intro e
  subst e
  rcases h with ⟨rfl, _⟩ | ⟨b', off, cur', rfl, g2, g3, g4⟩
  · cases hx
  · simp only [Option.some.injEq] at hx
    subst hx
    rw [g3] at hb
    simp only [Option.some.injEq, Obj.cells.injEq] at hb
    exact hE hb.2.1
theorem RowsOf.turned {w w' : World} {B B' : Nat} {E : TypeId} {vs vs' : List Value} {xss : List (List Int)} {A : Option Addr} {c : Nat} (h : RowsOf w B vs xss) (hA : Own w B' E A c vs') (hE : E ≠ 3) (ht : Turned w w' A) : RowsOf w' B vs xss :=
  h.kept fun b _ hb => ht.block b (lt_of_heap hb) (fun x hx => hA.ne hb hE x hx)
theorem Own.turned {w w' : World} {B B' : Nat} {E E' : TypeId} {a : Option Addr} {c c' : Nat} {vs vs' : List Value} {A : Option Addr} (h : Own w B E' a c' vs) (hA : Own w B' E A c vs') (hE : E ≠ E') (ht : Turned w w' A) : Own w' B E' a c' vs :=
  h.keptT fun b _ hb => ht.block b (lt_of_heap hb) (fun x hx => hA.ne hb hE x hx)
theorem Row.turnedT {w w' : World} {B' : Nat} {E E' : TypeId} {b c : Nat} {vs vs' : List Value} {A : Option Addr} (h : Row w b E' vs) (hA : Own w B' E A c vs') (hE : E ≠ E') (ht : Turned w w' A) : Row w' b E' vs :=
  h.turned ht fun x hx => hA.ne h hE x hx
theorem OwnRows.turned {w w' : World} {B B' : Nat} {E : TypeId} {a : Option Addr} {c c' : Nat} {vs' : List Value} {xss : List (List Int)} {A : Option Addr} (h : OwnRows w B a c' xss) (hA : Own w B' E A c vs') (h3 : E ≠ 3) (h22 : E ≠ 22) (ht : Turned w w' A) : OwnRows w' B a c' xss := by
  obtain ⟨vs, h1, h2⟩ := h
  exact ⟨vs, h1.turned hA h22 ht, h2.turned hA h3 ht⟩
theorem RowsOf.alloc {w : World} {B : Nat} {vs : List Value} {xss : List (List Int)} (h : RowsOf w B vs xss) (o : Obj) : RowsOf (w.alloc o) B vs xss :=
  h.kept fun b _ h => Below.heap_alloc w o b (lt_of_heap h)

section
variable {P : Program} {w : World} {ops : Array Oper} {rest : List Oper} {o : Oper} {a : Act} {Q : Exit → Act → World → Prop}
/-- 'append(s, x)' as an arm of the walk. -/
theorem wpList_append_one (hg : o.guard = none) (s x : Operand) (t : TypeId) (hop : o.op = .call { callee := .builtin .append, args := #[s, x], argTypes := #[t, t] })
    (B : Nat) (E : TypeId) (i : TypeInfo) (z : Value) (bytes : Nat) (h1 : P.underlying t = some (.slice E)) (h2 : P.info? E = some i) (h3 : i.zero = some z) (h4 : i.size = 1) (h5 : i.bytes = bytes) (hz : z.cells.size = 1)
    (A : Option Addr) (n c : Nat) (vs : List Value) (hs : a.eval s = .slice A n c) (hn : vs.length = n) (hown : Own w B E A c vs) (ad : Addr) (m' : Nat) (u : Value) (hx : a.eval x = .slice (some ad) 1 m') (hu : w.cell? ad = some u) (hu1 : u.oneCell' = true)
    (hbytes : (n + 1) * bytes ≤ 140737488355328) (h63 : n + 1 ≤ 9223372036854775807) (hB : B ≤ w.heap.size)
    (hK : ∀ A' c' w', Own w' B E A' c' (vs ++ [u]) → Turned w w' A → (∀ x, A' = some x → (w.heap.size ≤ x.block ∨ ∃ y, A = some y ∧ x = y)) → wpList P ops Q rest (a.put o.dst (.slice A' (n + 1) c')) w') :
    wpList P ops Q (o :: rest) a w := by
  subst hn
  refine wpList_plain hg fun K hK' => ?_
  obtain ⟨a', c', w', hrun, r1, r2, r3⟩ := run_append_one (P := P) w B t o.type E i z bytes h1 h2 h3 h4 h5 hz A c vs hown ad m' u hu hu1 hbytes h63 hB
  unfold Oper.wp
  simp [execOp, hop, resolve, invoke, builtin, hs, hx, hrun, Result.andThen]
  exact hK' _ _ (hK a' c' w' r1 r2 r3)
/-- 'make([]T, n)'. -/
theorem wpList_make_one (hg : o.guard = none) (l : Operand) (t : TypeId) (hop : o.op = Op.makeSlice t l l)
    (E : TypeId) (i : TypeInfo) (z : Value) (bytes : Nat) (h1 : P.underlying t = some (.slice E)) (h2 : P.info? E = some i) (h3 : i.zero = some z) (h4 : i.size = 1) (h5 : i.bytes = bytes) (hz : z.cells = #[z])
    (k : IntKind) (L : Int) (n : Nat) (hl : a.eval l = .int k L) (hL : L = (n : Int)) (b2 : bytes * n ≤ 281474976710656) (b3 : n ≤ 9223372036854775807)
    (hK : wpList P ops Q rest (a.put o.dst (.slice (some ⟨w.heap.size, 0, none⟩) n n)) (w.alloc (.cells (Array.replicate n z) E))) :
    wpList P ops Q (o :: rest) a w := by
  subst h5; subst hL
  refine wpList_plain hg fun K hK' => ?_
  have hb' : (i.bytes : Int) * (n : Int) ≤ 281474976710656 := by
    have h : ((i.bytes * n : Nat) : Int) ≤ 281474976710656 := by omega
    rwa [Int.natCast_mul] at h
  have hr := run_make (P := P) w t E i z h1 h2 h3 k k n n (by omega) (Int.le_refl _) hb' (by omega)
  simp only [Int.toNat_natCast, h4, Nat.mul_one, hz] at hr
  have hm : madeCells #[z] n = Array.replicate n z := by
    apply Array.ext'
    rw [toList_madeCells_one, Array.toList_replicate]
  rw [hm] at hr
  unfold Oper.wp
  simp [execOp, hop, hl, hr, Result.andThen]
  exact hK' _ _ hK
/-- 's[1:]', s the call's own. -/
theorem wpList_tail (hg : o.guard = none) (x : Operand) (t E : TypeId) (i : TypeInfo) (h1 : P.underlying t = some (.slice E)) (h2 : P.info? E = some i) (h4 : i.size = 1) (hop : o.op = Op.slice t x (some (.const (.int .i64 1))) none none)
    (B : Nat) (b off n c : Nat) (vs : List Value) (hx : a.eval x = .slice (some ⟨b, off, none⟩) n c) (hn : vs.length = n) (hpos : 0 < n) (hown : Own w B E (some ⟨b, off, none⟩) c vs)
    (hK : ∀ A', Own w B E A' (c - 1) (vs.drop 1) → (∀ y, A' = some y → y.block = b) → wpList P ops Q rest (a.put o.dst (.slice A' (n - 1) (c - 1))) w) :
    wpList P ops Q (o :: rest) a w := by
  subst hn
  refine wpList_plain hg fun K hK' => ?_
  have he : P.elem t = E := by simp [Program.elem, h1]
  have h1' : P.underlying t = some (.slice (P.elem t)) := by rw [he]; exact h1
  have hs : (sizeOf (P.elem t)).run P w = .ok 1 w := by rw [he]; simp [sizeOf, typeInfo, h2, h4]
  have hr := run_slice_l (P := P) w t (some ⟨b, off, none⟩) vs.length c h1' .i64 1 (by omega) (by omega)
  rw [hs] at hr
  have hv : sliced (some ⟨b, off, none⟩) (1 : Int).toNat vs.length c 1 = .slice (some (if c = 1 then ⟨b, off, none⟩ else ⟨b, off + 1, none⟩)) (vs.length - 1) (c - 1) := by
    unfold sliced
    by_cases e : c = 1
    · simp [e]
    · simp [e, Addr.add]
  have hr2 : (Instr.sliceAt t (.slice (some ⟨b, off, none⟩) vs.length c) (some (.int .i64 1)) none none).run P w = .ok (.slice (some (if c = 1 then ⟨b, off, none⟩ else ⟨b, off + 1, none⟩)) (vs.length - 1) (c - 1)) w := by
    rw [run_sliceAt_slice (P := P) w t _ _ _ _ h1', hr, ← hv]; rfl
  unfold Oper.wp
  have hc : a.eval (Operand.const (Value.int IntKind.i64 1)) = .int .i64 1 := rfl
  simp only [execOp, hop, hx, Option.map_some, Option.map_none, hc, Sem.run_bind, hr2, Result.andThen]
  refine hK' _ _ (hK _ (hown.tail hpos) ?_)
  intro y hy
  simp only [Option.some.injEq] at hy
  subst hy
  split <;> rfl
end
end Go.Proofs.YtmhhjchnjaefhaaDoor


