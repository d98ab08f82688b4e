/- Append of elements of k cells; two pairs of numbers compared. -/
import Derived.Test.YtmjoijfafachhaaBase
import Derived.Test.YtmjoijfafachhaaHeap
import Derived.Test.YtmjoijfafachhaaProg
import Derived.Deep.AppendSrc
import Derived.Deep.Matrix
import Derived.Deep.DeepCutAuto
import Derived.Deep.RegionLaw
import Derived.Deep.RegionHeld3
namespace Go.Proofs.Ytmjoijfafachhaa
open Go Go.RowKit
/-! ### Cells set one by one in a row -/
theorem heap_setCells_row (b : Nat) (E : TypeId) : ∀ (us : List Value) (o : Nat) (w : World) (cur : Array Value), w.heap[b]? = some (.cells cur E (0, 0)) → o + us.length ≤ cur.size →
    ∃ cur', (w.setCells b o us).heap[b]? = some (.cells cur' E (0, 0)) ∧ cur'.size = cur.size ∧ ∀ j, cur'[j]? = if o ≤ j ∧ j < o + us.length then us[j - o]? else cur[j]?
  | [], o, w, cur, h, _ => ⟨cur, h, rfl, fun j => by rw [if_neg (by simp)]⟩
  | u :: us, o, w, cur, h, hl => by
    simp only [List.length_cons] at hl
    obtain ⟨cur', h1, h2, h3⟩ := heap_setCells_row b E us (o + 1) (w.setCell ⟨b, o, none⟩ u) (cur.setIfInBounds o u) (heap_setCell_same w b o cur E u h) (by simp; omega)
    refine ⟨cur', h1, by rw [h2]; simp, fun j => ?_⟩
    rw [h3 j, Array.getElem?_setIfInBounds]
    simp only [List.length_cons]
    by_cases e : o = j
    · subst e
      rw [if_neg (by omega), if_pos rfl, if_pos (by omega), if_pos (by omega)]
      simp
    · rw [if_neg e]
      by_cases g : o + 1 ≤ j ∧ j < o + 1 + us.length
      · rw [if_pos g, if_pos (by omega), show j - o = (j - (o + 1)) + 1 from by omega, List.getElem?_cons_succ]
      · rw [if_neg g, if_neg (by omega)]
theorem size_setCells (b : Nat) : ∀ (us : List Value) (o : Nat) (w : World), (w.setCells b o us).heap.size = w.heap.size ∧ (w.setCells b o us).os = w.os ∧ (w.setCells b o us).tape = w.tape ∧ (w.setCells b o us).output = w.output ∧ ∀ k, k ≠ b → (w.setCells b o us).heap[k]? = w.heap[k]?
  | [], _, _ => ⟨rfl, rfl, rfl, rfl, fun _ _ => rfl⟩
  | u :: us, o, w => by
    obtain ⟨h1, h2, h3, h4, h5⟩ := size_setCells b us (o + 1) (w.setCell ⟨b, o, none⟩ u)
    exact ⟨h1.trans (by simp), h2, h3, h4, fun k hk => (h5 k hk).trans (heap_setCell_other w ⟨b, o, none⟩ k u hk)⟩
/-- 'append(s, xs...)', s the call's own; elements of k cells; m elements that are read. -/
theorem run_append_wide {P : Program} (w : World) (B : Nat) (t tx ty E : TypeId) (i : TypeInfo) (z : Value) (bytes k : Nat) (h1 : P.underlying t = some (.slice E)) (h1x : P.underlying tx = some (.slice E)) (h2 : P.info? E = some i) (h3 : i.zero = some z) (h4 : i.size = k) (hk : 0 < k) (h5 : i.bytes = bytes) (hz : z.cells.size = k)
    (a : Option Addr) (n c : Nat) (vs : List Value) (hn : vs.length = n * k) (hnc : n ≤ c) (hown : Own w B E a (c * k) vs) (ax : Option Addr) (m cx : Nat) (us : List Value) (hm : us.length = m * k) (hus : VAt w ax us) (hu1 : ∀ u ∈ us, u.oneCell' = true)
    (hbytes : (n + m) * bytes ≤ 140737488355328) (h63 : n + m ≤ 9223372036854775807) (hB : B ≤ w.heap.size) :
    ∃ a' c' w', (Builtin.append_ #[t, tx] ty #[.slice a n c, .slice ax m cx]).run P w = .ok (.slice a' (n + m) c') w' ∧ n + m ≤ c' ∧ Own w' B E a' (c' * k) (vs ++ us) ∧ Turned w w' a ∧
      (∀ x, a' = some x → (w.heap.size ≤ x.block ∨ ∃ y, a = some y ∧ x = y)) := by
  have hs : Src P i.size tx (.slice ax m cx) m us w := by
    cases ax with
    | none =>
      have : us = [] := by
        cases us with
        | nil => rfl
        | cons u us => obtain ⟨_, _, h, _⟩ := hus 0 u rfl; cases h
      subst this
      have hm0 : m = 0 := by
        rcases Nat.eq_zero_or_pos m with e | e
        · exact e
        · have := Nat.mul_pos e hk; simp at hm; omega
      subst hm0
      exact Src.ofNil w h1x cx
    | some ad =>
      refine Src.ofSlice w h1x ad m cx us (by rw [h4]; exact hm) (fun j v hj => ?_) hu1
      obtain ⟨b, off, he, hc⟩ := hus j v hj
      cases he
      rw [Addr.add_lit]; exact hc
  subst h5
  by_cases hroom : n + m ≤ c
  · have hroom2 : (n + m) * k ≤ c * k := Nat.mul_le_mul_right k hroom
    rw [Nat.add_mul] at hroom2
    rcases hown with ⟨rfl, rfl, hc0⟩ | ⟨b, off, cur, rfl, g2, g3, g4, g5, g6⟩
    · have hc1 : c = 0 := by
        rcases Nat.eq_zero_or_pos c with e | e
        · exact e
        · have := Nat.mul_pos e hk; omega
      subst hc1
      obtain rfl : m = 0 := by omega
      obtain rfl : n = 0 := by omega
      have h0 : us = [] := List.eq_nil_of_length_eq_zero (by omega)
      subst h0
      have hr : (Builtin.append_ #[t, tx] ty #[.slice none 0 0, .slice ax 0 cx]).run P w = .ok (.slice none 0 0) w := by
        have hl := hs.len
        have hc := hs.cells
        simp [Builtin.append_, run_underlying h1, run_underlying h1x, sizeOf, typeInfo, h2, hl, hc]
      exact ⟨none, 0, w, hr, Nat.le_refl _, by rw [Nat.zero_mul]; exact Own.nil _ _ _, ⟨rfl, rfl, rfl, Nat.le_refl _, fun _ _ _ => rfl⟩, fun x hx => by cases hx⟩
    · have hcell : ∀ j, j < us.length → (w.cell? ⟨b, off + n * i.size + j, none⟩).isSome = true := by
        intro j hj
        rw [cell_of_row w b _ cur E (0, 0) g3]
        have : off + n * i.size + j < cur.size := by rw [h4]; omega
        simp [this]
      have hr := run_append_room_src (P := P) w t tx ty E i h1 h2 b off n c (.slice ax m cx) m us hs hroom hcell (fun j _ => frozen_of_row w b _ cur E g3)
      rw [h4] at hr
      obtain ⟨cur', k1, k2, k3⟩ := heap_setCells_row b E us (off + n * k) w cur g3 (by omega)
      obtain ⟨s1, s2, s3, s4, s5⟩ := size_setCells b us (off + n * k) w
      refine ⟨_, _, _, hr, hroom, ?_, ⟨s2, s3, s4, by omega, fun k _ hk => s5 k (fun e => hk _ rfl e.symm)⟩, fun x hx => .inr ⟨_, rfl, (by simpa using hx.symm)⟩⟩
      refine .inr ⟨b, off, cur', rfl, g2, k1, by rw [List.length_append]; omega, by omega, fun j v hj => ?_⟩
      rw [k3, List.getElem?_append] at *
      split at hj
      · rename_i hlt
        rw [if_neg (by omega)]; exact g6 j v hj
      · rename_i hge
        have hjl := (List.getElem?_eq_some_iff.1 hj).1
        rw [if_pos (by omega), show off + j - (off + n * k) = j - vs.length from by omega]
        exact hj
  · have hold : ∃ ys : List Value, ys = vs ∧ (Builtin.firstCells i.size n (.slice a n c)).run P w.drew = .ok ys.toArray w.drew := by
      rcases hown with ⟨rfl, rfl, hc0⟩ | ⟨b, off, cur, rfl, g2, g3, g4, g5, g6⟩
      · have hn0 : n = 0 := by
          rcases Nat.eq_zero_or_pos n with e | e
          · exact e
          · have := Nat.mul_pos e hk; simp at hn; omega
        subst hn0
        exact ⟨[], rfl, run_firstCells_none _ _ _ _ _⟩
      · refine ⟨vs, rfl, run_firstCells_some w.drew i.size n ⟨b, off, none⟩ n c vs (by rw [h4]; exact hn) (fun j v hj => ?_)⟩
        rw [Addr.add_lit]
        show w.cell? ⟨b, off + j, none⟩ = some v
        rw [cell_of_row w b _ cur E (0, 0) g3]
        exact g6 j v hj
    obtain ⟨ys, rfl, holds⟩ := hold
    have hr := run_append_grow_src (P := P) w t tx ty E i z h1 h2 h3 a n c ys holds (.slice ax m cx) m us hs (by omega) (by omega) (growslice_fits (by omega) hbytes)
    have hge := grownCap_ge w (n + m) c E
    refine ⟨_, _, _, hr, hge, ?_, ⟨rfl, rfl, rfl, by simp, fun k hk _ => Below.heap_alloc w.drew _ k hk⟩, fun x hx => by simp only [Option.some.injEq] at hx; subst hx; exact .inl (Nat.le_refl _)⟩
    have hge2 : (n + m) * k ≤ grownCap w (n + m) c E * k := Nat.mul_le_mul_right k hge
    have hge3 : (grownCap w (n + m) c E - (n + m)) * k = grownCap w (n + m) c E * k - (n + m) * k := Nat.sub_mul _ _ _
    rw [Nat.add_mul] at hge2 hge3
    refine .inr ⟨_, 0, _, rfl, by simpa using hB, heap_alloc_new w.drew _, by rw [List.length_append]; omega, ?_, ?_⟩
    · simp [size_zeroCells, hz]; omega
    · intro j v hj
      have hlt : j < (ys ++ us).length := (List.getElem?_eq_some_iff.1 hj).1
      rw [Nat.zero_add, Array.getElem?_append_left (by simpa using hlt)]
      simpa using hj
theorem replicate_ints (n : Nat) : (Array.replicate n (Value.int .i64 0)).toList = ints (List.replicate n 0) := by simp [ints]
theorem replicate_bools (n : Nat) : (Array.replicate n (Value.bool false)).toList = bools (List.replicate n false) := by simp [bools]
theorem run_mk1 {T E : TypeId} {z : Value} {bytes : Nat} (hu : Try.prog.underlying T = some (.slice E)) (hi : (Try.prog.info? E).map (fun i => (i.zero, i.size, i.bytes)) = some (some z, 1, bytes)) (hz : z.cells = #[z]) (n c : Nat) (hnc : n ≤ c) (hb : bytes ≤ 24) (hn : c ≤ 1000000000) (W : World) :
    (Instr.makeSlice T (.int .i64 (n : Int)) (.int .i64 (c : Int))).run Try.prog W = .ok (.slice (some ⟨W.heap.size, 0, none⟩) n c) (W.alloc (.cells (Array.replicate c z) E)) := by
  obtain ⟨i0, hi0, hz0, hz1, hz2⟩ := info_parts hi
  have hbb : (bytes : Int) * (c : Int) ≤ 281474976710656 := by
    have h : bytes * c ≤ 24 * 1000000000 := Nat.mul_le_mul hb hn
    have h2 : ((bytes * c : Nat) : Int) ≤ 281474976710656 := by omega
    rwa [Int.natCast_mul] at h2
  have hr := run_make (P := Try.prog) W T E i0 z hu hi0 hz0 .i64 .i64 n c (by omega) (by omega) (by rw [hz2]; exact hbb) (by omega)
  simp only [Int.toNat_natCast, hz1, Nat.mul_one] at hr
  have hm : madeCells z.cells c = Array.replicate c z := by
    apply Array.ext'
    rw [hz, toList_madeCells_one, Array.toList_replicate]
  rw [hm] at hr
  exact hr
theorem OwnRows.keptB {w w' : World} {B : Nat} {a : Option Addr} {c : Nat} {xss : List (List Int)} (h : OwnRows w B a c xss) (hk : ∀ b, B ≤ b → w'.heap[b]? = w.heap[b]?) : OwnRows w' B a c xss := by
  obtain ⟨vs, h1, h2, h3⟩ := h
  refine ⟨vs, h1.kept fun x hx => hk _ (h1.lt hx).1, h2, fun i v xs hv hx => ?_⟩
  obtain ⟨a', c', e, ho⟩ := h3 i v xs hv hx
  exact ⟨a', c', e, ho.kept fun x hx => hk _ (ho.lt hx).1⟩
theorem getD_some {α : Type} {l : List α} {i : Nat} {d : α} (h : i < l.length) : l[i]? = some (l.getD i d) := by simp [h]
theorem und45 : Try.prog.underlying 45 = some (.array 2 3) := by kernel_rfl
theorem part0 (W : World) (x y : Int) : (part 3 #[.int .i64 x, .int .i64 y] 0).run Try.prog W = .ok (.int .i64 x) W := by kernel_rfl
theorem part1 (W : World) (x y : Int) : (part 3 #[.int .i64 x, .int .i64 y] 1).run Try.prog W = .ok (.int .i64 y) W := by kernel_rfl
theorem size3 (W : World) : (sizeOf 3).run Try.prog W = .ok 1 W := by kernel_rfl
theorem run_eqPair' (d : Nat) (x y x' y' : Int) (W : World) : (Op.equalIn (d + 2) 45 (.agg #[.int .i64 x, .int .i64 y]) (.agg #[.int .i64 x', .int .i64 y'])).run Try.prog W = .ok (x == x' && y == y') W := by
  have e1 := run_equalIn_int (P := Try.prog) W d 3 .i64 .i64 x x' Try.underlying3
  have e2 := run_equalIn_int (P := Try.prog) W d 3 .i64 .i64 y y' Try.underlying3
  rw [Op.equalIn]
  simp only [Sem.run_bind, run_underlying und45, Result.andThen_ok, size3, Std.Legacy.Range.forIn_eq_forIn_range']
  rw [show List.range' 0 (Std.Legacy.Range.size [:2]) = [0, 1] from rfl]
  simp only [List.forIn_cons, List.forIn_nil, Sem.run_bind, Nat.zero_mul, Nat.one_mul, part0, Result.andThen_ok, e1]
  cases (x == x')
  · simp
  · simp only [Bool.not_true, Bool.false_eq_true, if_false, Sem.run_pure, Result.andThen_ok, part1, e2, Sem.run_bind]
    cases (y == y') <;> simp
theorem run_eqPair (x y x' y' : Int) (W : World) : (Op.equalIn 10000 45 (.agg #[.int .i64 x, .int .i64 y]) (.agg #[.int .i64 x', .int .i64 y'])).run Try.prog W = .ok (x == x' && y == y') W := run_eqPair' 9998 x y x' y' W
end Go.Proofs.Ytmjoijfafachhaa
