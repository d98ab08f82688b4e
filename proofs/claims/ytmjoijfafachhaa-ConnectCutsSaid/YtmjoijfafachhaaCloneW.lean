/- The walks of slices.Clone and diagram.Clone. -/
import Derived.Test.YtmjoijfafachhaaHeap
import Derived.Test.YtmjoijfafachhaaConM
import Derived.Test.YtmjoijfafachhaaPartW
import Derived.Test.YtmjoijfafachhaaBesW
import Derived.Deep.AppendSrc
import Derived.Deep.DeepCutAuto
import Derived.WalkSpells
import Derived.Deep.RegionHeld
namespace Go.Proofs.Ytmjoijfafachhaa
open Go Go.RowKit
theorem nilTest (a : Option Addr) (n c : Nat) (W : World) : (binOp .eql 22 (.slice a n c) (.slice none 0 0)).run Try.prog W = .ok (.bool a.isNone) W := Lib.run_eql_slice_nil W 22 3 a n c 0 0 Try.underlying22
/-- Whole slices appended to an empty one that lies at z. -/
theorem run_append_all (W : World) (z : Nat) (hz : z ≤ W.heap.size) (xs : List Int) (ad : Addr) (c : Nat) (ty : TypeId) (hl : xs.length ≤ 1000000) (hc : ∀ i, i < xs.length → W.cell? (ad.add i) = some (.int .i64 (nth xs i))) :
    ∃ a' c' W', (Builtin.append_ #[22, 22] ty #[.slice (some ⟨z, 0, none⟩) 0 0, .slice (some ad) xs.length c]).run Try.prog W = .ok (.slice a' xs.length c') W' ∧ IntsAt W' a' xs ∧ (∀ x, a' = some x → z ≤ x.block) ∧ Below W.heap.size W W' := by
  obtain ⟨i0, hi0, hz0, hz1, hz2⟩ := info_parts Try.info3
  have hs : Src Try.prog i0.size 22 (.slice (some ad) xs.length c) xs.length (ints xs) W := by
    refine Src.ofSlice W Try.underlying22 ad xs.length c (ints xs) (by rw [ints_length, hz1, Nat.mul_one]) (fun j v hj => ?_) (fun v hv => ?_)
    · have hjl : j < xs.length := by have := (List.getElem?_eq_some_iff.1 hj).1; rwa [ints_length] at this
      rw [ints_get xs j hjl] at hj
      cases hj
      exact hc j hjl
    · simp only [ints, List.mem_map] at hv
      obtain ⟨_, _, rfl⟩ := hv
      rfl
  rcases Nat.eq_zero_or_pos xs.length with h0 | h0
  · obtain rfl : xs = [] := List.eq_nil_of_length_eq_zero h0
    have hr := run_append_room_src (P := Try.prog) W 22 22 ty 3 i0 Try.underlying22 hi0 z 0 0 0 (.slice (some ad) 0 c) 0 [] hs (by omega) (fun j hj => absurd hj (Nat.not_lt_zero _)) (fun j hj => absurd hj (Nat.not_lt_zero _))
    exact ⟨_, _, _, hr, IntsAt.nil _ _, fun x hx => by cases hx; exact Nat.le_refl _, Below.refl _ _⟩
  · have hr := run_append_grow_src (P := Try.prog) W 22 22 ty 3 i0 (.int .i64 0) Try.underlying22 hi0 hz0 (some ⟨z, 0, none⟩) 0 0 [] (run_firstCells_some W.drew i0.size 0 ⟨z, 0, none⟩ 0 0 [] (by simp) (by simp)) (.slice (some ad) xs.length c) xs.length (ints xs) hs (by omega) (by omega) (growslice_fits (by omega) (by rw [hz2]; omega))
    rw [Nat.zero_add] at hr
    refine ⟨_, _, _, hr, ?_, fun x hx => by cases hx; exact hz, ?_⟩
    · intro j v hj
      refine ⟨W.heap.size, 0, rfl, ?_⟩
      have hjl : j < xs.length := by have := (List.getElem?_eq_some_iff.1 hj).1; rwa [ints_length] at this
      have hn := heap_alloc_new W.drew (.cells (([] ++ ints xs).toArray ++ Builtin.zeroCells (Value.int .i64 0).cells (grownCap W xs.length 0 3 - xs.length)) 3)
      rw [cell_of_row _ W.heap.size _ _ 3 (0, 0) hn]
      rw [Array.getElem?_append]
      have : (0 + j) < (([] : List Value) ++ ints xs).toArray.size := by simp [ints_length]; omega
      rw [if_pos this]
      simpa using hj
    · exact (Below.refl _ _).drew.alloc (Nat.le_refl _) _
section
variable {w : World} {ops : Array Oper} {rest : List Oper} {o : Oper} {a : Act} {Q : Exit → Act → World → Prop}
theorem wpList_append_all (hg : o.guard = none) (s x : Operand) (hop : o.op = .call { callee := .builtin .append, args := #[s, x], argTypes := #[22, 22] })
    (u v r : Value) (w' : World) (hs : a.eval s = u) (hx : a.eval x = v) (hrun : (Builtin.append_ #[22, 22] o.type #[u, v]).run Try.prog w = .ok r w')
    (hK : wpList Try.prog ops Q rest (a.put o.dst r) w') : wpList Try.prog ops Q (o :: rest) a w := by
  refine wpList_plain hg fun K hK' => ?_
  unfold Oper.wp
  simp [execOp, hop, resolve, invoke, builtin, hs, hx, hrun, Result.andThen]
  exact hK' _ _ hK
end
set_option maxRecDepth 100000 in
set_option maxHeartbeats 4000000 in
theorem sclone_some (xs : List Int) (ad : Addr) (c : Nat) (w : World) (hl : xs.length ≤ 1000000) (hx : IntsAt w (some ad) xs) :
    Calls Try.prog 73 #[.slice (some ad) xs.length c] w fun e w' => ∃ a' c', e = .returned (.slice a' xs.length c') ∧ IntsAt w' a' xs ∧ (∀ x, a' = some x → w.heap.size ≤ x.block) ∧ Below w.heap.size w w' := by
  have hnil := nilTest (some ad) xs.length c
  simp only [Option.isNone_some] at hnil
  have hb : Below w.heap.size w (w.alloc (.cells #[] 3)) := (Below.refl _ _).alloc (Nat.le_refl _) _
  obtain ⟨a', c', W', hrun, hi, hlo, hbw⟩ := run_append_all (w.alloc (.cells #[] 3)) w.heap.size (by simp) xs ad c 22 hl (fun i hi => by
    have h1 := hx.later hb
    obtain ⟨b', off', he, _, hc⟩ := h1.open (by omega)
    simp only [Option.some.injEq] at he
    rw [he, Addr.add_lit]
    exact hc i hi)
  have Hi := Lib.hid hi
  have Hlo := Lib.hid hlo
  have Hb := Lib.hid (below_step hb hbw)
  have Hrun := Lib.hid hrun
  clear hx hi hbw hb hrun hlo
  go_enter Try.func73, Try.ntmps73
  go_wp2_with (refine wpList_append_all rfl (.tmp 5) (.tmp 6) rfl _ _ _ _ rfl rfl Hrun.out ?_)
  go_ret
  exact ⟨a', c', rfl, Hi.out, Hlo.out, Hb.out⟩
set_option maxRecDepth 100000 in
theorem sclone_none (xs : List Int) (c : Nat) (w : World) (h0 : xs = []) :
    Calls Try.prog 73 #[.slice none 0 c] w fun e w' => ∃ a' c', e = .returned (.slice a' xs.length c') ∧ IntsAt w' a' xs ∧ (∀ x, a' = some x → w.heap.size ≤ x.block) ∧ Below w.heap.size w w' := by
  have hnil := nilTest none 0 c
  simp only [Option.isNone_none] at hnil
  go_enter Try.func73, Try.ntmps73
  go_wp2_with fail
  go_ret
  subst h0
  exact ⟨_, _, rfl, IntsAt.nil _ _, fun x hx => by simp at hx, Below.refl _ _⟩
theorem sclone_any (xs : List Int) (a : Option Addr) (c : Nat) (w : World) (hl : xs.length ≤ 1000000) (hx : IntsAt w a xs) :
    Calls Try.prog 73 #[.slice a xs.length c] w fun e w' => ∃ a' c', e = .returned (.slice a' xs.length c') ∧ IntsAt w' a' xs ∧ (∀ x, a' = some x → w.heap.size ≤ x.block) ∧ Below w.heap.size w w' := by
  rcases Nat.eq_zero_or_pos xs.length with h0 | h0
  · have h1 : xs = [] := List.eq_nil_of_length_eq_zero h0
    cases a with
    | none => rw [h0]; have := sclone_none xs c w h1; rw [h0] at this; exact this
    | some ad => exact sclone_some xs ad c w hl hx
  · obtain ⟨b, off, rfl, _⟩ := hx.open h0
    exact sclone_some xs ⟨b, off, none⟩ c w hl hx
theorem IntsAt.setOther {w : World} {a : Option Addr} {xs : List Int} (h : IntsAt w a xs) (p : Addr) (u : Value) (hp : ∀ x, a = some x → x.block ≠ p.block) : IntsAt (w.setCell p u) a xs := by
  intro i v hi
  obtain ⟨b, off, he, hc⟩ := h i v hi
  refine ⟨b, off, he, ?_⟩
  have hb := hp _ he
  exact (World.cell?_setCell_far w p ⟨b, off + i, none⟩ u fun e => hb e.symm).trans hc
end Go.Proofs.Ytmjoijfafachhaa
