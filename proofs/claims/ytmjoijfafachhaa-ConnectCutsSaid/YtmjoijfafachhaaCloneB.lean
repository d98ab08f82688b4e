/- The walk of slices.Clone at a slice that is not empty: the copy is the call's own. -/
import Derived.Test.YtmjoijfafachhaaCloneW
namespace Go.Proofs.Ytmjoijfafachhaa
open Go Go.RowKit
theorem run_append_own (W : World) (z B : Nat) (hB : B ≤ W.heap.size) (xs : List Int) (ad : Addr) (c : Nat) (ty : TypeId) (hl : xs.length ≤ 1000000) (h0 : 0 < xs.length) (hc : ∀ i, i < xs.length → W.cell? (ad.add i) = some (.int .i64 (nth xs i))) :
    ∃ a' c' W', (Builtin.append_ #[22, 22] ty #[.slice (some ⟨z, 0, none⟩) 0 0, .slice (some ad) xs.length c]).run Try.prog W = .ok (.slice a' xs.length c') W' ∧ Own W' B 3 a' c' (ints xs) ∧ Below W.heap.size W W' := by
  obtain ⟨i0, hi0, hz0, hz1, hz2⟩ := info_parts Try.info3
  have hs : Src Try.prog i0.size 22 (.slice (some ad) xs.length c) xs.length (ints xs) W := by
    refine Src.ofSlice W Try.underlying22 ad xs.length c (ints xs) (by rw [ints_length, hz1, Nat.mul_one]) (fun j v hj => ?_) (fun v hv => ?_)
    · have hjl : j < xs.length := by have := (List.getElem?_eq_some_iff.1 hj).1; rwa [ints_length] at this
      rw [ints_get xs j hjl] at hj
      cases hj
      exact hc j hjl
    · simp only [ints, List.mem_map] at hv
      obtain ⟨_, _, rfl⟩ := hv
      rfl
  have hr := run_append_grow_src (P := Try.prog) W 22 22 ty 3 i0 (.int .i64 0) Try.underlying22 hi0 hz0 (some ⟨z, 0, none⟩) 0 0 [] (run_firstCells_some W.drew i0.size 0 ⟨z, 0, none⟩ 0 0 [] (by simp) (by simp)) (.slice (some ad) xs.length c) xs.length (ints xs) hs (by omega) (by omega) (growslice_fits (by omega) (by rw [hz2]; omega))
  rw [Nat.zero_add] at hr
  have hge := grownCap_ge W xs.length 0 3
  refine ⟨_, _, _, hr, ?_, (Below.refl _ _).drew.alloc (Nat.le_refl _) _⟩
  refine .inr ⟨_, 0, _, rfl, by simpa using hB, heap_alloc_new W.drew _, ?_, ?_, ?_⟩
  · rw [ints_length]; simpa using hge
  · simp [size_zeroCells, ints_length, Value.cells]; omega
  · intro j v hj
    have hlt : j < (ints xs).length := (List.getElem?_eq_some_iff.1 hj).1
    rw [Nat.zero_add, Array.getElem?_append_left (by simpa using hlt)]
    simpa using hj
set_option maxRecDepth 100000 in
set_option maxHeartbeats 4000000 in
theorem sclone_own (xs : List Int) (a : Option Addr) (c : Nat) (w : World) (hl : xs.length ≤ 1000000) (h0 : 0 < xs.length) (hx : IntsAt w a xs) :
    Calls Try.prog 73 #[.slice a xs.length c] w fun e w' => ∃ a' c', e = .returned (.slice a' xs.length c') ∧ Own w' w.heap.size 3 a' c' (ints xs) ∧ Below w.heap.size w w' := by
  obtain ⟨b, off, rfl, _⟩ := hx.open h0
  have hnil := nilTest (some ⟨b, off, none⟩) xs.length c
  simp only [Option.isNone_some] at hnil
  have hb : Below w.heap.size w (w.alloc (.cells #[] 3)) := (Below.refl _ _).alloc (Nat.le_refl _) _
  obtain ⟨a', c', W', hrun, hi, hbw⟩ := run_append_own (w.alloc (.cells #[] 3)) w.heap.size w.heap.size (by simp) xs ⟨b, off, none⟩ c 22 hl h0 (fun i hi => by
    have h1 := hx.later hb
    obtain ⟨b', off', he, _, hc⟩ := h1.open (by omega)
    simp only [Option.some.injEq] at he
    rw [he, Addr.add_lit]
    exact hc i hi)
  have Hi := Lib.hid hi
  have Hb := Lib.hid (below_step hb hbw)
  have Hrun := Lib.hid hrun
  clear hx hi hbw hb hrun
  go_enter Try.func73, Try.ntmps73
  go_wp2_with (refine wpList_append_all rfl (.tmp 5) (.tmp 6) rfl _ _ _ _ rfl rfl Hrun.out ?_)
  go_ret
  exact ⟨a', c', rfl, Hi.out, Hb.out⟩
end Go.Proofs.Ytmjoijfafachhaa
