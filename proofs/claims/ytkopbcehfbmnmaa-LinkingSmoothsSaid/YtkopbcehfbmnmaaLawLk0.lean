/- The walks of the linking laws' own helpers: few, awake. -/
import Derived.Test.YtkopbcehfbmnmaaNumberW
namespace Go.Proofs.Ytkopbcehfbmnmaa
open Go Go.RowKit
/-- few's answer. -/
def fewB (S M : List Int) (L : Int) : Bool := decide (S.length ≤ 12 ∧ M.length ≤ 60 ∧ (L ≤ 12 ∨ 64 < L))
set_option maxRecDepth 100000 in
set_option maxHeartbeats 2000000 in
theorem few_any (S M : List Int) (L : Int) (aS aM : Option Addr) (cS cM : Nat) (w : World) (hSl : S.length ≤ maxLen) (hMl : M.length ≤ maxLen) :
    Calls Try.prog 29 #[.agg #[.slice aS S.length cS, .slice aM M.length cM, .int .i64 L]] w fun e w' => e = .returned (.bool (fewB S M L)) ∧ Below w.heap.size w w' := by
  have HB : Hid (∀ o, Below w.heap.size w (w.alloc o)) := Lib.hid fun o => (Below.refl _ _).alloc (Nat.le_refl _) o
  unfold maxLen at hSl hMl
  by_cases h1 : S.length ≤ 12
  · by_cases h2 : M.length ≤ 60
    · by_cases h3 : L ≤ 12
      · have hf : fewB S M L = true := decide_eq_true ⟨h1, h2, .inl h3⟩
        rw [hf]
        clear hf
        go_enter Try.func29, Try.ntmps29
        go_wp2_with fail
        go_ret
        exact ⟨rfl, HB.out _⟩
      · by_cases h4 : 64 < L
        · have hf : fewB S M L = true := decide_eq_true ⟨h1, h2, .inr h4⟩
          rw [hf]
          have d3 : decide (L ≤ 12) = false := decide_eq_false h3
          clear hf
          go_enter Try.func29, Try.ntmps29
          go_wp2_with fail
          go_ret
          exact ⟨rfl, HB.out _⟩
        · have hf : fewB S M L = false := decide_eq_false (by omega)
          rw [hf]
          have d3 : decide (L ≤ 12) = false := decide_eq_false h3
          have d4 : decide (64 < L) = false := decide_eq_false h4
          clear hf
          go_enter Try.func29, Try.ntmps29
          go_wp2_with fail
          go_ret
          exact ⟨rfl, HB.out _⟩
    · have hf : fewB S M L = false := decide_eq_false (by omega)
      rw [hf]
      clear hf
      go_enter Try.func29, Try.ntmps29
      go_wp2_with fail
      go_ret
      exact ⟨rfl, HB.out _⟩
  · have hf : fewB S M L = false := decide_eq_false (by omega)
    rw [hf]
    clear hf
    go_enter Try.func29, Try.ntmps29
    go_wp2_with fail
    go_ret
    exact ⟨rfl, HB.out _⟩
theorem ex_t : vldB [1, 1, 1] [9, 4, 7, 10, 1, 8, 11, 2, 5, 0, 3, 6] 0 = true := by decide +kernel
theorem ex_h : vldB [1, 1] [5, 4, 7, 6, 1, 0, 3, 2] 0 = true := by decide +kernel
theorem ex_t1 : (if vldB [1, 1, 1] [9, 4, 7, 10, 1, 8, 11, 2, 5, 0, 3, 6] 0 = true then sumTo [1, 1, 1] (ownF (strandsL [1, 1, 1] [9, 4, 7, 10, 1, 8, 11, 2, 5, 0, 3, 6] 0)) (fun _ _ => true) 3 else 0) = 3 := by decide +kernel
theorem ex_t2 : (if vldB [1, 1, 1] [9, 4, 7, 10, 1, 8, 11, 2, 5, 0, 3, 6] 0 = true ∧ (0 : Int) ≤ 0 then sumTo [1, 1, 1] (ownF (strandsL [1, 1, 1] [9, 4, 7, 10, 1, 8, 11, 2, 5, 0, 3, 6] 0)) (fun u o => u == 0 && o == 0) 3 else 0) = 3 := by decide +kernel
theorem ex_h1 : numberR [1, 1] [5, 4, 7, 6, 1, 0, 3, 2] 0 1 0 = (1, 0) := by decide +kernel
theorem ex_h2 : (if vldB [1, 1] [5, 4, 7, 6, 1, 0, 3, 2] 0 = true then (sumTo [1, 1] (ownF (strandsL [1, 1] [5, 4, 7, 6, 1, 0, 3, 2] 0)) (fun u o => u != o) 2).tdiv 2 else 0) = 1 := by decide +kernel
theorem Row.newAt (w : World) (vs : Array Value) (E : TypeId) (k : Nat) (hk : w.heap.size = k) : Row (w.alloc (.cells vs E)) k E vs.toList := by
  subst hk; exact Row.new w vs E
/-- The example's blocks. -/
def exS : List Int := [1, 1, 1]
def exM : List Int := [9, 4, 7, 10, 1, 8, 11, 2, 5, 0, 3, 6]
def exS2 : List Int := [1, 1]
def exM2 : List Int := [5, 4, 7, 6, 1, 0, 3, 2]
set_option maxRecDepth 100000 in
set_option maxHeartbeats 4000000 in
theorem awake_any (w : World) :
    Calls Try.prog 28 #[] w fun e w' => e = .returned (.bool true) ∧ Below w.heap.size w w' := by
  obtain ⟨W, hW⟩ : ∃ W, W = ((((((w.alloc (.cells #[.int .i64 1, .int .i64 1, .int .i64 1] 3)).alloc (.cells #[.int .i64 9, .int .i64 4, .int .i64 7, .int .i64 10, .int .i64 1, .int .i64 8, .int .i64 11, .int .i64 2, .int .i64 5, .int .i64 0, .int .i64 3, .int .i64 6] 3)).alloc (.cells #[.slice (some ⟨w.heap.size, 0, none⟩) 3 3, .slice (some ⟨w.heap.size + 1, 0, none⟩) 12 12, .int .i64 0] 24)).alloc (.cells #[.int .i64 1, .int .i64 1] 3)).alloc (.cells #[.int .i64 5, .int .i64 4, .int .i64 7, .int .i64 6, .int .i64 1, .int .i64 0, .int .i64 3, .int .i64 2] 3)).alloc (.cells #[.slice (some ⟨w.heap.size + 1 + 1 + 1, 0, none⟩) 2 2, .slice (some ⟨w.heap.size + 1 + 1 + 1 + 1, 0, none⟩) 8 8, .int .i64 0] 24)) := ⟨_, rfl⟩
  have hz : W.heap.size = w.heap.size + 6 := by rw [hW]; simp
  have R0 : Row W w.heap.size 3 (ints exS) := by
    rw [hW]; exact (((((Row.newAt _ _ _ _ rfl).alloc _).alloc _).alloc _).alloc _).alloc _
  have R1 : Row W (w.heap.size + 1) 3 (ints exM) := by
    rw [hW]; exact ((((Row.newAt _ _ _ _ (by simp)).alloc _).alloc _).alloc _).alloc _
  have R2 : Row W (w.heap.size + 1 + 1) 24 [.slice (some ⟨w.heap.size, 0, none⟩) 3 3, .slice (some ⟨w.heap.size + 1, 0, none⟩) 12 12, .int .i64 0] := by
    rw [hW]; exact (((Row.newAt _ _ _ _ (by simp)).alloc _).alloc _).alloc _
  have R3 : Row W (w.heap.size + 1 + 1 + 1) 3 (ints exS2) := by
    rw [hW]; exact ((Row.newAt _ _ _ _ (by simp)).alloc _).alloc _
  have R4 : Row W (w.heap.size + 1 + 1 + 1 + 1) 3 (ints exM2) := by
    rw [hW]; exact (Row.newAt _ _ _ _ (by simp)).alloc _
  have R5 : Row W (w.heap.size + 1 + 1 + 1 + 1 + 1) 24 [.slice (some ⟨w.heap.size + 1 + 1 + 1, 0, none⟩) 2 2, .slice (some ⟨w.heap.size + 1 + 1 + 1 + 1, 0, none⟩) 8 8, .int .i64 0] := by
    rw [hW]; exact Row.newAt _ _ _ _ (by simp)
  have hB : Below w.heap.size w W := by
    rw [hW]
    exact ((((((Below.refl _ _).alloc (Nat.le_refl _) _).alloc (by simp) _).alloc (by simp; omega) _).alloc (by simp; omega) _).alloc (by simp; omega) _).alloc (by simp; omega) _
  have H1 : Hid (Calls Try.prog 30 #[.agg #[.slice (some ⟨w.heap.size + 1 + 1 + 1, 0, none⟩) 2 2, .slice (some ⟨w.heap.size + 1 + 1 + 1 + 1, 0, none⟩) 8 8, .int .i64 0], .int .i64 1, .int .i64 0] W fun e w' => e = .returned (.tuple #[.int .i64 1, .int .i64 0]) ∧ Below W.heap.size W w') := Lib.hid (by
    refine (number_any exS2 exM2 0 (some ⟨w.heap.size + 1 + 1 + 1, 0, none⟩) (some ⟨w.heap.size + 1 + 1 + 1 + 1, 0, none⟩) 2 8 1 0 W (by decide) (by decide) R3.at R4.at).mono ?_
    rintro e w' ⟨he, hb⟩
    rw [show numberR exS2 exM2 0 1 0 = (1, 0) from ex_h1] at he
    exact ⟨he, hb⟩)
  have H2 : Hid (∀ W', Below W.heap.size W W' → Calls Try.prog 33 #[.agg #[.slice (some ⟨w.heap.size, 0, none⟩) 3 3, .slice (some ⟨w.heap.size + 1, 0, none⟩) 12 12, .int .i64 0]] W' fun e w' => e = .returned (.int .i64 3) ∧ Below W'.heap.size W' w') := Lib.hid fun W' hW' => by
    refine (writhe_any exS exM 0 (some ⟨w.heap.size, 0, none⟩) (some ⟨w.heap.size + 1, 0, none⟩) 3 12 W' (by decide) (by decide) (R0.later hW' R0.lt).at (R1.later hW' R1.lt).at).mono ?_
    rintro e w' ⟨he, hb⟩
    exact ⟨he.trans (ret_int ex_t1), hb⟩
  have H3 : Hid (∀ W', Below W.heap.size W W' → Calls Try.prog 34 #[.agg #[.slice (some ⟨w.heap.size, 0, none⟩) 3 3, .slice (some ⟨w.heap.size + 1, 0, none⟩) 12 12, .int .i64 0], .int .i64 0] W' fun e w' => e = .returned (.int .i64 3) ∧ Below W'.heap.size W' w') := Lib.hid fun W' hW' => by
    refine (self_any exS exM 0 (some ⟨w.heap.size, 0, none⟩) (some ⟨w.heap.size + 1, 0, none⟩) 3 12 0 W' (by decide) (by decide) (R0.later hW' R0.lt).at (R1.later hW' R1.lt).at).mono ?_
    rintro e w' ⟨he, hb⟩
    exact ⟨he.trans (ret_int ex_t2), hb⟩
  have H4 : Hid (∀ W', Below W.heap.size W W' → Calls Try.prog 35 #[.agg #[.slice (some ⟨w.heap.size + 1 + 1 + 1, 0, none⟩) 2 2, .slice (some ⟨w.heap.size + 1 + 1 + 1 + 1, 0, none⟩) 8 8, .int .i64 0]] W' fun e w' => e = .returned (.int .i64 1) ∧ Below W'.heap.size W' w') := Lib.hid fun W' hW' => by
    refine (total_any exS2 exM2 0 (some ⟨w.heap.size + 1 + 1 + 1, 0, none⟩) (some ⟨w.heap.size + 1 + 1 + 1 + 1, 0, none⟩) 2 8 W' (by decide) (by decide) (R3.later hW' R3.lt).at (R4.later hW' R4.lt).at).mono ?_
    rintro e w' ⟨he, hb⟩
    exact ⟨he.trans (ret_int ex_h2), hb⟩
  have HB := Lib.hid hB
  have HR2 := Lib.hid R2
  have HR5 := Lib.hid R5
  clear R0 R1 R2 R3 R4 R5 hz hB
  go_enter Try.func28, Try.ntmps28
  go_wp2_with fail
  rw [← hW]
  refine H1.out.mono ?_
  rintro e w1 ⟨rfl, hb1⟩
  have Hb1 := Lib.hid hb1
  have Hc : Hid (∀ W', Below W.heap.size W W' → (∀ i, W'.cell? ⟨w.heap.size + 1 + 1, i, none⟩ = [Value.slice (some ⟨w.heap.size, 0, none⟩) 3 3, .slice (some ⟨w.heap.size + 1, 0, none⟩) 12 12, .int .i64 0][i]?) ∧ (∀ i, W'.cell? ⟨w.heap.size + 1 + 1 + 1 + 1 + 1, i, none⟩ = [Value.slice (some ⟨w.heap.size + 1 + 1 + 1, 0, none⟩) 2 2, .slice (some ⟨w.heap.size + 1 + 1 + 1 + 1, 0, none⟩) 8 8, .int .i64 0][i]?)) := Lib.hid fun W' h => ⟨fun i => (HR2.out.later h HR2.out.lt).cell i, fun i => (HR5.out.later h HR5.out.lt).cell i⟩
  have hc := (Hc.out w1 Hb1.out).1
  have hc0 := hc 0
  have hc1 := hc 1
  have hc2 := hc 2
  simp only [List.getElem?_cons_succ, List.getElem?_cons_zero] at hc0 hc1 hc2
  clear hb1 hW H1 hc
  go_wp2_with fail
  refine (H2.out w1 Hb1.out).mono ?_
  rintro e w2 ⟨rfl, hb2⟩
  have Hb2 := Lib.hid (below_step Hb1.out hb2)
  have hc := (Hc.out w2 Hb2.out).1
  clear hc0 hc1 hc2 hb2
  have hc0 := hc 0
  have hc1 := hc 1
  have hc2 := hc 2
  simp only [List.getElem?_cons_succ, List.getElem?_cons_zero] at hc0 hc1 hc2
  clear hc
  go_wp2_with fail
  refine (H3.out w2 Hb2.out).mono ?_
  rintro e w3 ⟨rfl, hb3⟩
  have Hb3 := Lib.hid (below_step Hb2.out hb3)
  have hc := (Hc.out w3 Hb3.out).2
  clear hc0 hc1 hc2 hb3
  have hc0 := hc 0
  have hc1 := hc 1
  have hc2 := hc 2
  simp only [List.getElem?_cons_succ, List.getElem?_cons_zero] at hc0 hc1 hc2
  clear hc
  go_wp2_with fail
  refine (H4.out w3 Hb3.out).mono ?_
  rintro e w4 ⟨rfl, hb4⟩
  have Hb4 := Lib.hid (below_of HB.out (below_step Hb3.out hb4) HB.out.size)
  clear hc0 hc1 hc2 hb4
  go_wp2_with fail
  go_ret
  exact ⟨rfl, Hb4.out⟩
end Go.Proofs.Ytkopbcehfbmnmaa
