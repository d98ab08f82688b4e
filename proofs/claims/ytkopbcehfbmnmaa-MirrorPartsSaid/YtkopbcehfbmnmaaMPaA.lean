/- The walk of the law MirrorParts: errors. -/
import Derived.Test.YtkopbcehfbmnmaaAwake6
import Derived.Test.YtkopbcehfbmnmaaRRoV
import Derived.Test.YtkopbcehfbmnmaaRSmV
import Derived.Test.YtkopbcehfbmnmaaRMiW
import Derived.Test.YtkopbcehfbmnmaaROneW
import Derived.Test.YtkopbcehfbmnmaaSmoW
import Derived.Test.YtkopbcehfbmnmaaRefValidW
import Derived.Test.YtkopbcehfbmnmaaSwitchW
namespace Go.Proofs.Ytkopbcehfbmnmaa
open Go Go.RowKit
set_option maxRecDepth 100000 in
set_option maxHeartbeats 4000000 in
theorem rone_no (S M : List Int) (L : Int) (aS aM : Option Addr) (cS cM : Nat) (k : Int) (w : World) (hSl : S.length ≤ 1000000000) (hMl : M.length ≤ 1000000000) (hv : vldB S M L = false) (hS : IntsAt w aS S) (hM : IntsAt w aM M) :
    Calls Try.prog 56 #[.agg #[.slice aS S.length cS, .slice aM M.length cM, .int .i64 L], .int .i64 k] w (DgR w [] [] 0 1) := by
  obtain ⟨W, hW⟩ : ∃ W, W = ((w.alloc (.cells #[.slice aS S.length cS, .slice aM M.length cM, .int .i64 L] 24)).alloc (.cells #[.slice none 0 0, .slice none 0 0, .int .i64 0] 24)) := ⟨_, rfl⟩
  have h0 : HH w W [(w.heap.size, rowO 24 [.slice aS S.length cS, .slice aM M.length cM, .int .i64 L]), (w.heap.size + 1, rowO 24 [.slice none 0 0, .slice none 0 0, .int .i64 0])] [] := by rw [hW]; exact (((HH.start w).alloc #[.slice aS S.length cS, .slice aM M.length cM, .int .i64 L] 24 rfl rfl).alloc #[.slice none 0 0, .slice none 0 0, .int .i64 0] 24 (by simp) rfl)
  have H0 := Lib.hid h0
  have H39 : Hid (∀ W', Below w.heap.size w W' → Calls Try.prog 39 #[.agg #[.slice aS S.length cS, .slice aM M.length cM, .int .i64 L]] W' fun e w' => e = .returned (.bool false) ∧ Below W'.heap.size W' w') := Lib.hid fun W' hW' => by rw [← hv]; exact valid_any S M L aS aM cS cM W' hSl hMl (hS.later hW') (hM.later hW')
  clear hv hS hM h0
  go_enter Try.func56, Try.ntmps56
  go_wp2_with fail
  rw [← hW]
  clear hW
  refine (H39.out W H0.out.below).mono ?_
  rintro e w1 ⟨rfl, hb1⟩
  have H1 := Lib.hid (H0.out.call hb1)
  clear hb1 H0
  have H9 := ((H1.out.set (k := 1) rfl 0 (.slice none 0 0)).set (k := 1) rfl 1 (.slice none 0 0)).set (k := 1) rfl 2 (.int .i64 0)
  have hF0 := H9.cell (k := 1) (i := 0) rfl rfl
  have hF1 := H9.cell (k := 1) (i := 1) rfl rfl
  have hF2 := H9.cell (k := 1) (i := 2) rfl rfl
  have hd0 := H1.out.cell (k := 1) (i := 0) rfl rfl
  have hf0 := H1.out.frozen (k := 1) rfl 0
  have hd1 := H1.out.cell (k := 1) (i := 1) rfl rfl
  have hf1 := H1.out.frozen (k := 1) rfl 1
  have hd2 := H1.out.cell (k := 1) (i := 2) rfl rfl
  have hf2 := H1.out.frozen (k := 1) rfl 2
  have Hfin := Lib.hid H9.below
  clear H9
  go_wp2_with fail
  refine bodyPost_ret (v := .tuple #[.agg #[.slice none 0 0, .slice none 0 0, .int .i64 0], .int .i64 1]) (by simp [results, Try.results56, go_sem, hF0, hF1, hF2]) rfl ?_
  exact ⟨none, none, 0, 0, rfl, IntsAt.nil _ _, IntsAt.nil _ _, Hfin.out⟩
set_option maxRecDepth 100000 in
set_option maxHeartbeats 4000000 in
theorem rone_out (S M : List Int) (L : Int) (aS aM : Option Addr) (cS cM : Nat) (k : Int) (w : World) (hv : vldB S M L = true) (hk : k < 0 ∨ ((strandsL S M L).length : Int) + L ≤ k) (hS : IntsAt w aS S) (hM : IntsAt w aM M) :
    Calls Try.prog 56 #[.agg #[.slice aS S.length cS, .slice aM M.length cM, .int .i64 L], .int .i64 k] w (DgR w [] [] 0 2) := by
  have hsl := (vldB_shape hv).few
  have hSl : S.length ≤ 1000000000 := by omega
  have hMl : M.length ≤ 1000000000 := by have := (vldB_shape hv).len; omega
  obtain ⟨W, hW⟩ : ∃ W, W = ((w.alloc (.cells #[.slice aS S.length cS, .slice aM M.length cM, .int .i64 L] 24)).alloc (.cells #[.slice none 0 0, .slice none 0 0, .int .i64 0] 24)) := ⟨_, rfl⟩
  have h0 : HH w W [(w.heap.size, rowO 24 [.slice aS S.length cS, .slice aM M.length cM, .int .i64 L]), (w.heap.size + 1, rowO 24 [.slice none 0 0, .slice none 0 0, .int .i64 0])] [] := by rw [hW]; exact (((HH.start w).alloc #[.slice aS S.length cS, .slice aM M.length cM, .int .i64 L] 24 rfl rfl).alloc #[.slice none 0 0, .slice none 0 0, .int .i64 0] 24 (by simp) rfl)
  have H0 := Lib.hid h0
  have H39 : Hid (∀ W', Below w.heap.size w W' → Calls Try.prog 39 #[.agg #[.slice aS S.length cS, .slice aM M.length cM, .int .i64 L]] W' fun e w' => e = .returned (.bool true) ∧ Below W'.heap.size W' w') := Lib.hid fun W' hW' => by rw [← hv]; exact valid_any S M L aS aM cS cM W' hSl hMl (hS.later hW') (hM.later hW')
  have H54 : Hid (∀ W', Below w.heap.size w W' → Calls Try.prog 54 #[.agg #[.slice aS S.length cS, .slice aM M.length cM, .int .i64 L]] W' fun e w' => ∃ a c, e = .returned (.slice a (strandsL S M L).length c) ∧ Below W'.heap.size W' w' ∧ OwnRows w' W'.heap.size a c ((strandsL S M L).map nats)) := Lib.hid fun W' hW' => strands_any S M L aS aM cS cM W' hSl hMl (hS.later hW') (hM.later hW')
  have hfw := (strandsL_lists hv).few
  have hL0 := (vldB_shape hv).lo
  have hL1 := (vldB_shape hv).hi
  clear hv hS hM h0 hSl hMl
  generalize strandsL S M L = ls at *
  go_enter Try.func56, Try.ntmps56
  go_wp2_with fail
  rw [← hW]
  clear hW
  refine (H39.out W H0.out.below).mono ?_
  rintro e w1 ⟨rfl, hb1⟩
  have H1 := Lib.hid (H0.out.call hb1)
  clear hb1 H0
  have hc0 := H1.out.cell (k := 0) (i := 0) rfl rfl
  have hc1 := H1.out.cell (k := 0) (i := 1) rfl rfl
  have hc2 := H1.out.cell (k := 0) (i := 2) rfl rfl
  go_wp2_with fail
  refine (H54.out w1 H1.out.below).mono ?_
  rintro e w2 ⟨A, cA, rfl, hb2, _⟩
  have H2 := Lib.hid (H1.out.call hb2)
  clear hb2 H1 hc0 hc1 hc2
  have hc0 := H2.out.cell (k := 0) (i := 0) rfl rfl
  have hc1 := H2.out.cell (k := 0) (i := 1) rfl rfl
  have hc2 := H2.out.cell (k := 0) (i := 2) rfl rfl
  by_cases h1 : k < 0
  · have d1 : decide (k < 0) = true := decide_eq_true h1
    clear hk h1
    have H9 := ((H2.out.set (k := 1) rfl 0 (.slice none 0 0)).set (k := 1) rfl 1 (.slice none 0 0)).set (k := 1) rfl 2 (.int .i64 0)
    have hF0 := H9.cell (k := 1) (i := 0) rfl rfl
    have hF1 := H9.cell (k := 1) (i := 1) rfl rfl
    have hF2 := H9.cell (k := 1) (i := 2) rfl rfl
    have hd0 := H2.out.cell (k := 1) (i := 0) rfl rfl
    have hf0 := H2.out.frozen (k := 1) rfl 0
    have hd1 := H2.out.cell (k := 1) (i := 1) rfl rfl
    have hf1 := H2.out.frozen (k := 1) rfl 1
    have hd2 := H2.out.cell (k := 1) (i := 2) rfl rfl
    have hf2 := H2.out.frozen (k := 1) rfl 2
    have Hfin := Lib.hid H9.below
    clear H9
    go_wp2_with fail
    refine bodyPost_ret (v := .tuple #[.agg #[.slice none 0 0, .slice none 0 0, .int .i64 0], .int .i64 2]) (by simp [results, Try.results56, go_sem, hF0, hF1, hF2]) rfl ?_
    exact ⟨none, none, 0, 0, rfl, IntsAt.nil _ _, IntsAt.nil _ _, Hfin.out⟩
  · have d1 : decide (k < 0) = false := decide_eq_false h1
    have d2 : decide ((ls.length : Int) + L ≤ k) = true := decide_eq_true (by omega)
    have d3 : IntKind.i64.wrap ((ls.length : Int) + L) = (ls.length : Int) + L := by rw [IntKind.wrap_i64]; omega
    clear hk h1
    have H9 := ((H2.out.set (k := 1) rfl 0 (.slice none 0 0)).set (k := 1) rfl 1 (.slice none 0 0)).set (k := 1) rfl 2 (.int .i64 0)
    have hF0 := H9.cell (k := 1) (i := 0) rfl rfl
    have hF1 := H9.cell (k := 1) (i := 1) rfl rfl
    have hF2 := H9.cell (k := 1) (i := 2) rfl rfl
    have hd0 := H2.out.cell (k := 1) (i := 0) rfl rfl
    have hf0 := H2.out.frozen (k := 1) rfl 0
    have hd1 := H2.out.cell (k := 1) (i := 1) rfl rfl
    have hf1 := H2.out.frozen (k := 1) rfl 1
    have hd2 := H2.out.cell (k := 1) (i := 2) rfl rfl
    have hf2 := H2.out.frozen (k := 1) rfl 2
    have Hfin := Lib.hid H9.below
    clear H9
    go_wp2_with fail
    refine bodyPost_ret (v := .tuple #[.agg #[.slice none 0 0, .slice none 0 0, .int .i64 0], .int .i64 2]) (by simp [results, Try.results56, go_sem, hF0, hF1, hF2]) rfl ?_
    exact ⟨none, none, 0, 0, rfl, IntsAt.nil _ _, IntsAt.nil _ _, Hfin.out⟩
set_option maxRecDepth 100000 in
set_option maxHeartbeats 4000000 in
theorem smooth_no (S M : List Int) (L : Int) (aS aM : Option Addr) (cS cM : Nat) (k : Int) (w : World) (hSl : S.length ≤ 1000000000) (hMl : M.length ≤ 1000000000) (hv : vldB S M L = false) (hS : IntsAt w aS S) (hM : IntsAt w aM M) :
    Calls Try.prog 57 #[.agg #[.slice aS S.length cS, .slice aM M.length cM, .int .i64 L], .int .i64 k] w (DgR w [] [] 0 1) := by
  obtain ⟨W, hW⟩ : ∃ W, W = ((w.alloc (.cells #[.slice aS S.length cS, .slice aM M.length cM, .int .i64 L] 24)).alloc (.cells #[.slice none 0 0, .slice none 0 0, .int .i64 0] 24)) := ⟨_, rfl⟩
  have h0 : HH w W [(w.heap.size, rowO 24 [.slice aS S.length cS, .slice aM M.length cM, .int .i64 L]), (w.heap.size + 1, rowO 24 [.slice none 0 0, .slice none 0 0, .int .i64 0])] [] := by rw [hW]; exact (((HH.start w).alloc #[.slice aS S.length cS, .slice aM M.length cM, .int .i64 L] 24 rfl rfl).alloc #[.slice none 0 0, .slice none 0 0, .int .i64 0] 24 (by simp) rfl)
  have H0 := Lib.hid h0
  have H39 : Hid (∀ W', Below w.heap.size w W' → Calls Try.prog 39 #[.agg #[.slice aS S.length cS, .slice aM M.length cM, .int .i64 L]] W' fun e w' => e = .returned (.bool false) ∧ Below W'.heap.size W' w') := Lib.hid fun W' hW' => by rw [← hv]; exact valid_any S M L aS aM cS cM W' hSl hMl (hS.later hW') (hM.later hW')
  clear hv hS hM h0
  go_enter Try.func57, Try.ntmps57
  go_wp2_with fail
  rw [← hW]
  clear hW
  refine (H39.out W H0.out.below).mono ?_
  rintro e w1 ⟨rfl, hb1⟩
  have H1 := Lib.hid (H0.out.call hb1)
  clear hb1 H0
  have H9 := ((H1.out.set (k := 1) rfl 0 (.slice none 0 0)).set (k := 1) rfl 1 (.slice none 0 0)).set (k := 1) rfl 2 (.int .i64 0)
  have hF0 := H9.cell (k := 1) (i := 0) rfl rfl
  have hF1 := H9.cell (k := 1) (i := 1) rfl rfl
  have hF2 := H9.cell (k := 1) (i := 2) rfl rfl
  have hd0 := H1.out.cell (k := 1) (i := 0) rfl rfl
  have hf0 := H1.out.frozen (k := 1) rfl 0
  have hd1 := H1.out.cell (k := 1) (i := 1) rfl rfl
  have hf1 := H1.out.frozen (k := 1) rfl 1
  have hd2 := H1.out.cell (k := 1) (i := 2) rfl rfl
  have hf2 := H1.out.frozen (k := 1) rfl 2
  have Hfin := Lib.hid H9.below
  clear H9
  go_wp2_with fail
  refine bodyPost_ret (v := .tuple #[.agg #[.slice none 0 0, .slice none 0 0, .int .i64 0], .int .i64 1]) (by simp [results, Try.results57, go_sem, hF0, hF1, hF2]) rfl ?_
  exact ⟨none, none, 0, 0, rfl, IntsAt.nil _ _, IntsAt.nil _ _, Hfin.out⟩
set_option maxRecDepth 100000 in
set_option maxHeartbeats 4000000 in
theorem smooth_out (S M : List Int) (L : Int) (aS aM : Option Addr) (cS cM : Nat) (k : Int) (w : World) (hv : vldB S M L = true) (hk : k < 0 ∨ (S.length : Int) ≤ k) (hS : IntsAt w aS S) (hM : IntsAt w aM M) :
    Calls Try.prog 57 #[.agg #[.slice aS S.length cS, .slice aM M.length cM, .int .i64 L], .int .i64 k] w (DgR w [] [] 0 2) := by
  have hsl := (vldB_shape hv).few
  have hSl : S.length ≤ 1000000000 := by omega
  have hMl : M.length ≤ 1000000000 := by have := (vldB_shape hv).len; omega
  obtain ⟨W, hW⟩ : ∃ W, W = ((w.alloc (.cells #[.slice aS S.length cS, .slice aM M.length cM, .int .i64 L] 24)).alloc (.cells #[.slice none 0 0, .slice none 0 0, .int .i64 0] 24)) := ⟨_, rfl⟩
  have h0 : HH w W [(w.heap.size, rowO 24 [.slice aS S.length cS, .slice aM M.length cM, .int .i64 L]), (w.heap.size + 1, rowO 24 [.slice none 0 0, .slice none 0 0, .int .i64 0])] [] := by rw [hW]; exact (((HH.start w).alloc #[.slice aS S.length cS, .slice aM M.length cM, .int .i64 L] 24 rfl rfl).alloc #[.slice none 0 0, .slice none 0 0, .int .i64 0] 24 (by simp) rfl)
  have H0 := Lib.hid h0
  have H39 : Hid (∀ W', Below w.heap.size w W' → Calls Try.prog 39 #[.agg #[.slice aS S.length cS, .slice aM M.length cM, .int .i64 L]] W' fun e w' => e = .returned (.bool true) ∧ Below W'.heap.size W' w') := Lib.hid fun W' hW' => by rw [← hv]; exact valid_any S M L aS aM cS cM W' hSl hMl (hS.later hW') (hM.later hW')
  clear hv hS hM h0 hSl hMl
  go_enter Try.func57, Try.ntmps57
  go_wp2_with fail
  rw [← hW]
  clear hW
  refine (H39.out W H0.out.below).mono ?_
  rintro e w1 ⟨rfl, hb1⟩
  have H1 := Lib.hid (H0.out.call hb1)
  clear hb1 H0
  have hc0 := H1.out.cell (k := 0) (i := 0) rfl rfl
  have hc1 := H1.out.cell (k := 0) (i := 1) rfl rfl
  have hc2 := H1.out.cell (k := 0) (i := 2) rfl rfl
  by_cases h1 : k < 0
  · have d1 : decide (k < 0) = true := decide_eq_true h1
    clear hk h1
    have H9 := ((H1.out.set (k := 1) rfl 0 (.slice none 0 0)).set (k := 1) rfl 1 (.slice none 0 0)).set (k := 1) rfl 2 (.int .i64 0)
    have hF0 := H9.cell (k := 1) (i := 0) rfl rfl
    have hF1 := H9.cell (k := 1) (i := 1) rfl rfl
    have hF2 := H9.cell (k := 1) (i := 2) rfl rfl
    have hd0 := H1.out.cell (k := 1) (i := 0) rfl rfl
    have hf0 := H1.out.frozen (k := 1) rfl 0
    have hd1 := H1.out.cell (k := 1) (i := 1) rfl rfl
    have hf1 := H1.out.frozen (k := 1) rfl 1
    have hd2 := H1.out.cell (k := 1) (i := 2) rfl rfl
    have hf2 := H1.out.frozen (k := 1) rfl 2
    have Hfin := Lib.hid H9.below
    clear H9
    go_wp2_with fail
    refine bodyPost_ret (v := .tuple #[.agg #[.slice none 0 0, .slice none 0 0, .int .i64 0], .int .i64 2]) (by simp [results, Try.results57, go_sem, hF0, hF1, hF2]) rfl ?_
    exact ⟨none, none, 0, 0, rfl, IntsAt.nil _ _, IntsAt.nil _ _, Hfin.out⟩
  · have d1 : decide (k < 0) = false := decide_eq_false h1
    have d2 : decide ((S.length : Int) ≤ k) = true := decide_eq_true (by omega)
    clear hk h1
    have H9 := ((H1.out.set (k := 1) rfl 0 (.slice none 0 0)).set (k := 1) rfl 1 (.slice none 0 0)).set (k := 1) rfl 2 (.int .i64 0)
    have hF0 := H9.cell (k := 1) (i := 0) rfl rfl
    have hF1 := H9.cell (k := 1) (i := 1) rfl rfl
    have hF2 := H9.cell (k := 1) (i := 2) rfl rfl
    have hd0 := H1.out.cell (k := 1) (i := 0) rfl rfl
    have hf0 := H1.out.frozen (k := 1) rfl 0
    have hd1 := H1.out.cell (k := 1) (i := 1) rfl rfl
    have hf1 := H1.out.frozen (k := 1) rfl 1
    have hd2 := H1.out.cell (k := 1) (i := 2) rfl rfl
    have hf2 := H1.out.frozen (k := 1) rfl 2
    have Hfin := Lib.hid H9.below
    clear H9
    go_wp2_with fail
    refine bodyPost_ret (v := .tuple #[.agg #[.slice none 0 0, .slice none 0 0, .int .i64 0], .int .i64 2]) (by simp [results, Try.results57, go_sem, hF0, hF1, hF2]) rfl ?_
    exact ⟨none, none, 0, 0, rfl, IntsAt.nil _ _, IntsAt.nil _ _, Hfin.out⟩
theorem mpa_comps {S M : List Int} {L : Int} (hv : vldB S M L = true) : ∃ N : Nat, compsN S M L = (N : Int) ∧ N ≤ 1000 ∧ (strandsL S M L).length ≤ N := by
  have hs := vldB_shape hv
  have h1 := (strandsL_lists hv).few
  have h2 := hs.few
  have h3 := hs.lo
  have h4 := hs.hi
  have h5 : compsN S M L = ((strandsL S M L).length : Int) + L := if_pos hv
  exact ⟨(strandsL S M L).length + L.toNat, by omega, by omega, by omega⟩
set_option maxRecDepth 100000 in
set_option maxHeartbeats 16000000 in
theorem mpa_large (S M : List Int) (L : Int) (aS aM : Option Addr) (cS cM : Nat) (k : Int) (w : World) (hSl : S.length ≤ maxLen) (hMl : M.length ≤ maxLen) (hf : few6B S M = false) :
    Calls Try.prog 14 #[.agg #[.slice aS S.length cS, .slice aM M.length cM, .int .i64 L], .int .i64 k] w fun e w' => e = .returned (.bool true) ∧ Below w.heap.size w w' := by
  obtain ⟨W, hW⟩ : ∃ W, W = (w.alloc (.cells #[.slice aS S.length cS, .slice aM M.length cM, .int .i64 L] 24)) := ⟨_, rfl⟩
  have h0 : HH w W [(w.heap.size, rowO 24 [.slice aS S.length cS, .slice aM M.length cM, .int .i64 L])] [] := by rw [hW]; exact ((HH.start w).alloc #[.slice aS S.length cS, .slice aM M.length cM, .int .i64 L] 24 rfl rfl)
  have H0 := Lib.hid h0
  have HF : Hid (∀ W', Calls Try.prog 42 #[.agg #[.slice aS S.length cS, .slice aM M.length cM, .int .i64 L]] W' fun e w' => e = .returned (.bool false) ∧ Below W'.heap.size W' w') := Lib.hid fun W' => by rw [← hf]; exact few6_any S M L aS aM cS cM W' hSl hMl
  clear hf hSl hMl h0
  go_enter Try.func14, Try.ntmps14
  go_wp2_with fail
  rw [← hW]
  clear hW
  refine (awake6_any W).mono ?_
  rintro e w1 ⟨rfl, hb1⟩
  have H1 := Lib.hid (H0.out.call hb1)
  clear hb1 H0
  have hc0_0 := H1.out.cell (k := 0) (i := 0) rfl rfl
  have hc0_1 := H1.out.cell (k := 0) (i := 1) rfl rfl
  have hc0_2 := H1.out.cell (k := 0) (i := 2) rfl rfl
  go_wp2_with fail
  refine (HF.out w1).mono ?_
  rintro e w2 ⟨rfl, hb2⟩
  have H2 := Lib.hid (H1.out.call hb2)
  clear hb2 H1
  clear hc0_0 hc0_1 hc0_2
  have hc0_0 := H2.out.cell (k := 0) (i := 0) rfl rfl
  have hc0_1 := H2.out.cell (k := 0) (i := 1) rfl rfl
  have hc0_2 := H2.out.cell (k := 0) (i := 2) rfl rfl
  go_wp2_with fail
  refine (awake6_any w2).mono ?_
  rintro e w3 ⟨rfl, hb3⟩
  have H3 := Lib.hid (H2.out.call hb3)
  clear hb3 H2
  clear hc0_0 hc0_1 hc0_2
  have hc0_0 := H3.out.cell (k := 0) (i := 0) rfl rfl
  have hc0_1 := H3.out.cell (k := 0) (i := 1) rfl rfl
  have hc0_2 := H3.out.cell (k := 0) (i := 2) rfl rfl
  go_wp2_with fail
  go_ret
  exact ⟨rfl, H3.out.below⟩
set_option maxRecDepth 100000 in
set_option maxHeartbeats 16000000 in
theorem mpa_no_x (S M : List Int) (L : Int) (aS aM : Option Addr) (cS cM : Nat) (k : Int) (w : World) (hf : few6B S M = true) (hv : vldB S M L = false) (hS : IntsAt w aS S) (hM : IntsAt w aM M) :
    Calls Try.prog 14 #[.agg #[.slice aS S.length cS, .slice aM M.length cM, .int .i64 L], .int .i64 k] w fun e w' => e = .returned (.bool true) ∧ Below w.heap.size w w' := by
  have hl : S.length ≤ 14 ∧ M.length ≤ 70 := by
    have := of_decide_eq_true hf
    exact ⟨this.1, this.2⟩
  have hSl : S.length ≤ 1000000000 := by omega
  have hMl : M.length ≤ 1000000000 := by omega
  obtain ⟨W, hW⟩ : ∃ W, W = (w.alloc (.cells #[.slice aS S.length cS, .slice aM M.length cM, .int .i64 L] 24)) := ⟨_, rfl⟩
  have h0 : HH w W [(w.heap.size, rowO 24 [.slice aS S.length cS, .slice aM M.length cM, .int .i64 L])] [] := by rw [hW]; exact ((HH.start w).alloc #[.slice aS S.length cS, .slice aM M.length cM, .int .i64 L] 24 rfl rfl)
  have H0 := Lib.hid h0
  have H42 : Hid (∀ W', Below w.heap.size w W' → Calls Try.prog 42 #[.agg #[.slice aS S.length cS, .slice aM M.length cM, .int .i64 L]] W' fun e w' => e = .returned (.bool true) ∧ Below W'.heap.size W' w') := Lib.hid fun W' hW' => by rw [← hf]; exact few6_any S M L aS aM cS cM W' (by unfold maxLen; omega) (by unfold maxLen; omega)
  have H32 : Hid (∀ W', Below w.heap.size w W' → Calls Try.prog 32 #[.agg #[.slice aS S.length cS, .slice aM M.length cM, .int .i64 L]] W' fun e w' => e = .returned (.bool false) ∧ Below W'.heap.size W' w') := Lib.hid fun W' hW' => by rw [← hv]; exact rvalid_any S M L aS aM cS cM W' hSl hMl (hS.later hW') (hM.later hW')
  have HA : Hid (∀ W', Below w.heap.size w W' → Calls Try.prog 56 #[.agg #[.slice aS S.length cS, .slice aM M.length cM, .int .i64 L], .int .i64 k] W' (fun e w' => ∃ (a b : Option Addr) (c d : Nat), e = .returned (.tuple #[.agg #[.slice a 0 c, .slice b 0 d, .int .i64 0], .int .i64 1]) ∧ (IntsAt w' a [] ∧ IntsAt w' b []) ∧ Below W'.heap.size W' w')) := Lib.hid fun W' hW' => (rone_no S M L aS aM cS cM k W' hSl hMl hv (hS.later hW') (hM.later hW')).mono fun e w' ⟨a, b, c, d, he, h1, h2, hb⟩ => ⟨a, b, c, d, he, ⟨h1, h2⟩, hb⟩
  have HB : Hid (∀ W', Below w.heap.size w W' → Calls Try.prog 52 #[.agg #[.slice aS S.length cS, .slice aM M.length cM, .int .i64 L], .int .i64 k] W' (fun e w' => ∃ (a b : Option Addr) (c d : Nat), e = .returned (.tuple #[.agg #[.slice a 0 c, .slice b 0 d, .int .i64 0], .int .i64 1]) ∧ (IntsAt w' a [] ∧ IntsAt w' b []) ∧ Below W'.heap.size W' w')) := Lib.hid fun W' hW' => (switch_no S M L aS aM cS cM k W' hSl hMl hv (hS.later hW') (hM.later hW')).mono fun e w' ⟨a, b, c, d, he, h1, h2, hb⟩ => ⟨a, b, c, d, he, ⟨h1, h2⟩, hb⟩
  have HC : Hid (∀ W', Below w.heap.size w W' → Calls Try.prog 57 #[.agg #[.slice aS S.length cS, .slice aM M.length cM, .int .i64 L], .int .i64 k] W' (fun e w' => ∃ (a b : Option Addr) (c d : Nat), e = .returned (.tuple #[.agg #[.slice a 0 c, .slice b 0 d, .int .i64 0], .int .i64 1]) ∧ (IntsAt w' a [] ∧ IntsAt w' b []) ∧ Below W'.heap.size W' w')) := Lib.hid fun W' hW' => (smooth_no S M L aS aM cS cM k W' hSl hMl hv (hS.later hW') (hM.later hW')).mono fun e w' ⟨a, b, c, d, he, h1, h2, hb⟩ => ⟨a, b, c, d, he, ⟨h1, h2⟩, hb⟩
  clear hf hv hSl hMl hS hM hl h0
  go_enter Try.func14, Try.ntmps14
  go_wp2_with fail
  rw [← hW]
  clear hW
  refine (awake6_any W).mono ?_
  rintro e w1 ⟨rfl, hb1⟩
  have H1 := Lib.hid (H0.out.call hb1)
  clear hb1 H0
  have hc0_0 := H1.out.cell (k := 0) (i := 0) rfl rfl
  have hc0_1 := H1.out.cell (k := 0) (i := 1) rfl rfl
  have hc0_2 := H1.out.cell (k := 0) (i := 2) rfl rfl
  go_wp2_with fail
  refine (H42.out w1 H1.out.below).mono ?_
  rintro e w2 ⟨rfl, hb2⟩
  have H2 := Lib.hid (H1.out.call hb2)
  clear hb2 H1
  clear hc0_0 hc0_1 hc0_2
  have hc0 := H2.out.cell (k := 0) (i := 0) rfl rfl
  have hc1 := H2.out.cell (k := 0) (i := 1) rfl rfl
  have hc2 := H2.out.cell (k := 0) (i := 2) rfl rfl
  go_wp2_with fail
  refine (HA.out w2 H2.out.below).mono ?_
  rintro e w3 ⟨aA, bA, cA, dA, rfl, hiA, hb3⟩
  have H3 := Lib.hid (H2.out.call hb3)
  clear hb3 H2 hc0 hc1 hc2
  go_upto_region 4 with fail
  obtain ⟨v3, hv3⟩ : ∃ x, x = w3.alloc (.cells #[.slice aA 0 cA, .slice bA 0 dA, .int .i64 0] 24) := ⟨_, rfl⟩
  rw [← hv3]
  have h3v : HH w v3 [(w.heap.size, rowO 24 [.slice aS S.length cS, .slice aM M.length cM, .int .i64 L]), (w3.heap.size, rowO 24 [.slice aA 0 cA, .slice bA 0 dA, .int .i64 0])] [] := by
    rw [hv3]; exact H3.out.alloc #[.slice aA 0 cA, .slice bA 0 dA, .int .i64 0] 24 rfl rfl
  have hb3v : Below w3.heap.size w3 v3 := by rw [hv3]; exact (Below.refl _ _).alloc (Nat.le_refl _) _
  have HIA : Hid (∀ W', Below v3.heap.size v3 W' → IntsAt W' aA ([] : List Int) ∧ IntsAt W' bA ([] : List Int)) := Lib.hid fun W' h => ⟨(hiA.1.later hb3v).later h, (hiA.2.later hb3v).later h⟩
  have H3v := Lib.hid h3v
  generalize w3.heap.size = qA at *
  clear hv3 h3v hb3v hiA H3
  have hc0 := H3v.out.cell (k := 0) (i := 0) rfl rfl
  have hc1 := H3v.out.cell (k := 0) (i := 1) rfl rfl
  have hc2 := H3v.out.cell (k := 0) (i := 2) rfl rfl
  go_wp2_with fail
  refine (HB.out v3 H3v.out.below).mono ?_
  rintro e w4 ⟨aB, bB, cB, dB, rfl, hiB, hb4⟩
  have H4 := Lib.hid (H3v.out.call hb4)
  have HIAn : Hid (∀ W', Below w4.heap.size w4 W' → IntsAt W' aA ([] : List Int) ∧ IntsAt W' bA ([] : List Int)) := Lib.hid fun W' h => HIA.out W' (below_step hb4 h)
  clear HIA
  clear hb4 H3v hc0 hc1 hc2
  go_upto_region 5 with fail
  obtain ⟨v4, hv4⟩ : ∃ x, x = w4.alloc (.cells #[.slice aB 0 cB, .slice bB 0 dB, .int .i64 0] 24) := ⟨_, rfl⟩
  rw [← hv4]
  have h4v : HH w v4 [(w.heap.size, rowO 24 [.slice aS S.length cS, .slice aM M.length cM, .int .i64 L]), (qA, rowO 24 [.slice aA 0 cA, .slice bA 0 dA, .int .i64 0]), (w4.heap.size, rowO 24 [.slice aB 0 cB, .slice bB 0 dB, .int .i64 0])] [] := by
    rw [hv4]; exact H4.out.alloc #[.slice aB 0 cB, .slice bB 0 dB, .int .i64 0] 24 rfl rfl
  have hb4v : Below w4.heap.size w4 v4 := by rw [hv4]; exact (Below.refl _ _).alloc (Nat.le_refl _) _
  have HIB : Hid (∀ W', Below v4.heap.size v4 W' → IntsAt W' aB ([] : List Int) ∧ IntsAt W' bB ([] : List Int)) := Lib.hid fun W' h => ⟨(hiB.1.later hb4v).later h, (hiB.2.later hb4v).later h⟩
  have HIA : Hid (∀ W', Below v4.heap.size v4 W' → IntsAt W' aA ([] : List Int) ∧ IntsAt W' bA ([] : List Int)) := Lib.hid fun W' h => HIAn.out W' (below_step hb4v h)
  clear HIAn
  have H4v := Lib.hid h4v
  generalize w4.heap.size = qB at *
  clear hv4 h4v hb4v hiB H4
  have hc0 := H4v.out.cell (k := 0) (i := 0) rfl rfl
  have hc1 := H4v.out.cell (k := 0) (i := 1) rfl rfl
  have hc2 := H4v.out.cell (k := 0) (i := 2) rfl rfl
  go_wp2_with fail
  refine (HC.out v4 H4v.out.below).mono ?_
  rintro e w5 ⟨aC, bC, cC, dC, rfl, hiC, hb5⟩
  have H5 := Lib.hid (H4v.out.call hb5)
  have HIAn : Hid (∀ W', Below w5.heap.size w5 W' → IntsAt W' aA ([] : List Int) ∧ IntsAt W' bA ([] : List Int)) := Lib.hid fun W' h => HIA.out W' (below_step hb5 h)
  clear HIA
  have HIBn : Hid (∀ W', Below w5.heap.size w5 W' → IntsAt W' aB ([] : List Int) ∧ IntsAt W' bB ([] : List Int)) := Lib.hid fun W' h => HIB.out W' (below_step hb5 h)
  clear HIB
  clear hb5 H4v hc0 hc1 hc2
  go_upto_region 6 with fail
  obtain ⟨v5, hv5⟩ : ∃ x, x = w5.alloc (.cells #[.slice aC 0 cC, .slice bC 0 dC, .int .i64 0] 24) := ⟨_, rfl⟩
  rw [← hv5]
  have h5v : HH w v5 [(w.heap.size, rowO 24 [.slice aS S.length cS, .slice aM M.length cM, .int .i64 L]), (qA, rowO 24 [.slice aA 0 cA, .slice bA 0 dA, .int .i64 0]), (qB, rowO 24 [.slice aB 0 cB, .slice bB 0 dB, .int .i64 0]), (w5.heap.size, rowO 24 [.slice aC 0 cC, .slice bC 0 dC, .int .i64 0])] [] := by
    rw [hv5]; exact H5.out.alloc #[.slice aC 0 cC, .slice bC 0 dC, .int .i64 0] 24 rfl rfl
  have hb5v : Below w5.heap.size w5 v5 := by rw [hv5]; exact (Below.refl _ _).alloc (Nat.le_refl _) _
  have HIC : Hid (∀ W', Below v5.heap.size v5 W' → IntsAt W' aC ([] : List Int) ∧ IntsAt W' bC ([] : List Int)) := Lib.hid fun W' h => ⟨(hiC.1.later hb5v).later h, (hiC.2.later hb5v).later h⟩
  have HIA : Hid (∀ W', Below v5.heap.size v5 W' → IntsAt W' aA ([] : List Int) ∧ IntsAt W' bA ([] : List Int)) := Lib.hid fun W' h => HIAn.out W' (below_step hb5v h)
  clear HIAn
  have HIB : Hid (∀ W', Below v5.heap.size v5 W' → IntsAt W' aB ([] : List Int) ∧ IntsAt W' bB ([] : List Int)) := Lib.hid fun W' h => HIBn.out W' (below_step hb5v h)
  clear HIBn
  have H5v := Lib.hid h5v
  generalize w5.heap.size = qC at *
  clear hv5 h5v hb5v hiC H5
  have hc0 := H5v.out.cell (k := 0) (i := 0) rfl rfl
  have hc1 := H5v.out.cell (k := 0) (i := 1) rfl rfl
  have hc2 := H5v.out.cell (k := 0) (i := 2) rfl rfl
  go_wp2_with fail
  refine (H32.out v5 H5v.out.below).mono ?_
  rintro e w6 ⟨rfl, hb6⟩
  have H6 := Lib.hid (H5v.out.call hb6)
  have HIAn : Hid (∀ W', Below w6.heap.size w6 W' → IntsAt W' aA ([] : List Int) ∧ IntsAt W' bA ([] : List Int)) := Lib.hid fun W' h => HIA.out W' (below_step hb6 h)
  clear HIA
  have HIA := HIAn
  clear HIAn
  have HIBn : Hid (∀ W', Below w6.heap.size w6 W' → IntsAt W' aB ([] : List Int) ∧ IntsAt W' bB ([] : List Int)) := Lib.hid fun W' h => HIB.out W' (below_step hb6 h)
  clear HIB
  have HIB := HIBn
  clear HIBn
  have HICn : Hid (∀ W', Below w6.heap.size w6 W' → IntsAt W' aC ([] : List Int) ∧ IntsAt W' bC ([] : List Int)) := Lib.hid fun W' h => HIC.out W' (below_step hb6 h)
  clear HIC
  have HIC := HICn
  clear HICn
  clear hb6 H5v hc0 hc1 hc2
  have hc0 := H6.out.cell (k := 1) (i := 0) rfl rfl
  have hc1 := H6.out.cell (k := 1) (i := 1) rfl rfl
  have hc2 := H6.out.cell (k := 1) (i := 2) rfl rfl
  go_wp2_with fail
  refine (zero_yes aA bA cA dA w6).mono ?_
  rintro e w7 ⟨rfl, hb7⟩
  have H7 := Lib.hid (H6.out.call hb7)
  have HIAn : Hid (∀ W', Below w7.heap.size w7 W' → IntsAt W' aA ([] : List Int) ∧ IntsAt W' bA ([] : List Int)) := Lib.hid fun W' h => HIA.out W' (below_step hb7 h)
  clear HIA
  have HIA := HIAn
  clear HIAn
  have HIBn : Hid (∀ W', Below w7.heap.size w7 W' → IntsAt W' aB ([] : List Int) ∧ IntsAt W' bB ([] : List Int)) := Lib.hid fun W' h => HIB.out W' (below_step hb7 h)
  clear HIB
  have HIB := HIBn
  clear HIBn
  have HICn : Hid (∀ W', Below w7.heap.size w7 W' → IntsAt W' aC ([] : List Int) ∧ IntsAt W' bC ([] : List Int)) := Lib.hid fun W' h => HIC.out W' (below_step hb7 h)
  clear HIC
  have HIC := HICn
  clear HICn
  clear hb7 H6 hc0 hc1 hc2
  have hc0 := H7.out.cell (k := 2) (i := 0) rfl rfl
  have hc1 := H7.out.cell (k := 2) (i := 1) rfl rfl
  have hc2 := H7.out.cell (k := 2) (i := 2) rfl rfl
  go_wp2_with fail
  refine (zero_yes aB bB cB dB w7).mono ?_
  rintro e w8 ⟨rfl, hb8⟩
  have H8 := Lib.hid (H7.out.call hb8)
  have HIAn : Hid (∀ W', Below w8.heap.size w8 W' → IntsAt W' aA ([] : List Int) ∧ IntsAt W' bA ([] : List Int)) := Lib.hid fun W' h => HIA.out W' (below_step hb8 h)
  clear HIA
  have HIA := HIAn
  clear HIAn
  have HIBn : Hid (∀ W', Below w8.heap.size w8 W' → IntsAt W' aB ([] : List Int) ∧ IntsAt W' bB ([] : List Int)) := Lib.hid fun W' h => HIB.out W' (below_step hb8 h)
  clear HIB
  have HIB := HIBn
  clear HIBn
  have HICn : Hid (∀ W', Below w8.heap.size w8 W' → IntsAt W' aC ([] : List Int) ∧ IntsAt W' bC ([] : List Int)) := Lib.hid fun W' h => HIC.out W' (below_step hb8 h)
  clear HIC
  have HIC := HICn
  clear HICn
  clear hb8 H7 hc0 hc1 hc2
  have hc0 := H8.out.cell (k := 3) (i := 0) rfl rfl
  have hc1 := H8.out.cell (k := 3) (i := 1) rfl rfl
  have hc2 := H8.out.cell (k := 3) (i := 2) rfl rfl
  go_wp2_with fail
  refine (zero_yes aC bC cC dC w8).mono ?_
  rintro e w9 ⟨rfl, hb9⟩
  have H9 := Lib.hid (H8.out.call hb9)
  have HIAn : Hid (∀ W', Below w9.heap.size w9 W' → IntsAt W' aA ([] : List Int) ∧ IntsAt W' bA ([] : List Int)) := Lib.hid fun W' h => HIA.out W' (below_step hb9 h)
  clear HIA
  have HIA := HIAn
  clear HIAn
  have HIBn : Hid (∀ W', Below w9.heap.size w9 W' → IntsAt W' aB ([] : List Int) ∧ IntsAt W' bB ([] : List Int)) := Lib.hid fun W' h => HIB.out W' (below_step hb9 h)
  clear HIB
  have HIB := HIBn
  clear HIBn
  have HICn : Hid (∀ W', Below w9.heap.size w9 W' → IntsAt W' aC ([] : List Int) ∧ IntsAt W' bC ([] : List Int)) := Lib.hid fun W' h => HIC.out W' (below_step hb9 h)
  clear HIC
  have HIC := HICn
  clear HICn
  clear hb9 H8 hc0 hc1 hc2
  go_wp2_with fail
  go_ret
  exact ⟨rfl, H9.out.below⟩
set_option maxRecDepth 100000 in
set_option maxHeartbeats 16000000 in
theorem mpa_neg_out (S M : List Int) (L : Int) (aS aM : Option Addr) (cS cM : Nat) (k : Int) (w : World) (hf : few6B S M = true) (hv : vldB S M L = true) (hk : k < 0) (hS : IntsAt w aS S) (hM : IntsAt w aM M) :
    Calls Try.prog 14 #[.agg #[.slice aS S.length cS, .slice aM M.length cM, .int .i64 L], .int .i64 k] w fun e w' => e = .returned (.bool true) ∧ Below w.heap.size w w' := by
  have hl : S.length ≤ 14 ∧ M.length ≤ 70 := by
    have := of_decide_eq_true hf
    exact ⟨this.1, this.2⟩
  have hSl : S.length ≤ 1000000000 := by omega
  have hMl : M.length ≤ 1000000000 := by omega
  obtain ⟨W, hW⟩ : ∃ W, W = (w.alloc (.cells #[.slice aS S.length cS, .slice aM M.length cM, .int .i64 L] 24)) := ⟨_, rfl⟩
  have h0 : HH w W [(w.heap.size, rowO 24 [.slice aS S.length cS, .slice aM M.length cM, .int .i64 L])] [] := by rw [hW]; exact ((HH.start w).alloc #[.slice aS S.length cS, .slice aM M.length cM, .int .i64 L] 24 rfl rfl)
  have H0 := Lib.hid h0
  have H42 : Hid (∀ W', Below w.heap.size w W' → Calls Try.prog 42 #[.agg #[.slice aS S.length cS, .slice aM M.length cM, .int .i64 L]] W' fun e w' => e = .returned (.bool true) ∧ Below W'.heap.size W' w') := Lib.hid fun W' hW' => by rw [← hf]; exact few6_any S M L aS aM cS cM W' (by unfold maxLen; omega) (by unfold maxLen; omega)
  have H32 : Hid (∀ W', Below w.heap.size w W' → Calls Try.prog 32 #[.agg #[.slice aS S.length cS, .slice aM M.length cM, .int .i64 L]] W' fun e w' => e = .returned (.bool true) ∧ Below W'.heap.size W' w') := Lib.hid fun W' hW' => by rw [← hv]; exact rvalid_any S M L aS aM cS cM W' hSl hMl (hS.later hW') (hM.later hW')
  have HA : Hid (∀ W', Below w.heap.size w W' → Calls Try.prog 56 #[.agg #[.slice aS S.length cS, .slice aM M.length cM, .int .i64 L], .int .i64 k] W' (fun e w' => ∃ (a b : Option Addr) (c d : Nat), e = .returned (.tuple #[.agg #[.slice a 0 c, .slice b 0 d, .int .i64 0], .int .i64 2]) ∧ (IntsAt w' a [] ∧ IntsAt w' b []) ∧ Below W'.heap.size W' w')) := Lib.hid fun W' hW' => (rone_out S M L aS aM cS cM k W' hv (.inl hk) (hS.later hW') (hM.later hW')).mono fun e w' ⟨a, b, c, d, he, h1, h2, hb⟩ => ⟨a, b, c, d, he, ⟨h1, h2⟩, hb⟩
  have HB : Hid (∀ W', Below w.heap.size w W' → Calls Try.prog 52 #[.agg #[.slice aS S.length cS, .slice aM M.length cM, .int .i64 L], .int .i64 k] W' (fun e w' => ∃ (a b : Option Addr) (c d : Nat), e = .returned (.tuple #[.agg #[.slice a 0 c, .slice b 0 d, .int .i64 0], .int .i64 2]) ∧ (IntsAt w' a [] ∧ IntsAt w' b []) ∧ Below W'.heap.size W' w')) := Lib.hid fun W' hW' => (switch_out S M L aS aM cS cM k W' hv (.inl hk) (hS.later hW') (hM.later hW')).mono fun e w' ⟨a, b, c, d, he, h1, h2, hb⟩ => ⟨a, b, c, d, he, ⟨h1, h2⟩, hb⟩
  have HC : Hid (∀ W', Below w.heap.size w W' → Calls Try.prog 57 #[.agg #[.slice aS S.length cS, .slice aM M.length cM, .int .i64 L], .int .i64 k] W' (fun e w' => ∃ (a b : Option Addr) (c d : Nat), e = .returned (.tuple #[.agg #[.slice a 0 c, .slice b 0 d, .int .i64 0], .int .i64 2]) ∧ (IntsAt w' a [] ∧ IntsAt w' b []) ∧ Below W'.heap.size W' w')) := Lib.hid fun W' hW' => (smooth_out S M L aS aM cS cM k W' hv (.inl hk) (hS.later hW') (hM.later hW')).mono fun e w' ⟨a, b, c, d, he, h1, h2, hb⟩ => ⟨a, b, c, d, he, ⟨h1, h2⟩, hb⟩
  have d1 : decide (k < 0) = true := decide_eq_true hk
  clear hf hv hSl hMl hS hM hl h0
  go_enter Try.func14, Try.ntmps14
  go_wp2_with fail
  rw [← hW]
  clear hW
  refine (awake6_any W).mono ?_
  rintro e w1 ⟨rfl, hb1⟩
  have H1 := Lib.hid (H0.out.call hb1)
  clear hb1 H0
  have hc0_0 := H1.out.cell (k := 0) (i := 0) rfl rfl
  have hc0_1 := H1.out.cell (k := 0) (i := 1) rfl rfl
  have hc0_2 := H1.out.cell (k := 0) (i := 2) rfl rfl
  go_wp2_with fail
  refine (H42.out w1 H1.out.below).mono ?_
  rintro e w2 ⟨rfl, hb2⟩
  have H2 := Lib.hid (H1.out.call hb2)
  clear hb2 H1
  clear hc0_0 hc0_1 hc0_2
  have hc0 := H2.out.cell (k := 0) (i := 0) rfl rfl
  have hc1 := H2.out.cell (k := 0) (i := 1) rfl rfl
  have hc2 := H2.out.cell (k := 0) (i := 2) rfl rfl
  go_wp2_with fail
  refine (HA.out w2 H2.out.below).mono ?_
  rintro e w3 ⟨aA, bA, cA, dA, rfl, hiA, hb3⟩
  have H3 := Lib.hid (H2.out.call hb3)
  clear hb3 H2 hc0 hc1 hc2
  go_upto_region 4 with fail
  obtain ⟨v3, hv3⟩ : ∃ x, x = w3.alloc (.cells #[.slice aA 0 cA, .slice bA 0 dA, .int .i64 0] 24) := ⟨_, rfl⟩
  rw [← hv3]
  have h3v : HH w v3 [(w.heap.size, rowO 24 [.slice aS S.length cS, .slice aM M.length cM, .int .i64 L]), (w3.heap.size, rowO 24 [.slice aA 0 cA, .slice bA 0 dA, .int .i64 0])] [] := by
    rw [hv3]; exact H3.out.alloc #[.slice aA 0 cA, .slice bA 0 dA, .int .i64 0] 24 rfl rfl
  have hb3v : Below w3.heap.size w3 v3 := by rw [hv3]; exact (Below.refl _ _).alloc (Nat.le_refl _) _
  have HIA : Hid (∀ W', Below v3.heap.size v3 W' → IntsAt W' aA ([] : List Int) ∧ IntsAt W' bA ([] : List Int)) := Lib.hid fun W' h => ⟨(hiA.1.later hb3v).later h, (hiA.2.later hb3v).later h⟩
  have H3v := Lib.hid h3v
  generalize w3.heap.size = qA at *
  clear hv3 h3v hb3v hiA H3
  have hc0 := H3v.out.cell (k := 0) (i := 0) rfl rfl
  have hc1 := H3v.out.cell (k := 0) (i := 1) rfl rfl
  have hc2 := H3v.out.cell (k := 0) (i := 2) rfl rfl
  go_wp2_with fail
  refine (HB.out v3 H3v.out.below).mono ?_
  rintro e w4 ⟨aB, bB, cB, dB, rfl, hiB, hb4⟩
  have H4 := Lib.hid (H3v.out.call hb4)
  have HIAn : Hid (∀ W', Below w4.heap.size w4 W' → IntsAt W' aA ([] : List Int) ∧ IntsAt W' bA ([] : List Int)) := Lib.hid fun W' h => HIA.out W' (below_step hb4 h)
  clear HIA
  clear hb4 H3v hc0 hc1 hc2
  go_upto_region 5 with fail
  obtain ⟨v4, hv4⟩ : ∃ x, x = w4.alloc (.cells #[.slice aB 0 cB, .slice bB 0 dB, .int .i64 0] 24) := ⟨_, rfl⟩
  rw [← hv4]
  have h4v : HH w v4 [(w.heap.size, rowO 24 [.slice aS S.length cS, .slice aM M.length cM, .int .i64 L]), (qA, rowO 24 [.slice aA 0 cA, .slice bA 0 dA, .int .i64 0]), (w4.heap.size, rowO 24 [.slice aB 0 cB, .slice bB 0 dB, .int .i64 0])] [] := by
    rw [hv4]; exact H4.out.alloc #[.slice aB 0 cB, .slice bB 0 dB, .int .i64 0] 24 rfl rfl
  have hb4v : Below w4.heap.size w4 v4 := by rw [hv4]; exact (Below.refl _ _).alloc (Nat.le_refl _) _
  have HIB : Hid (∀ W', Below v4.heap.size v4 W' → IntsAt W' aB ([] : List Int) ∧ IntsAt W' bB ([] : List Int)) := Lib.hid fun W' h => ⟨(hiB.1.later hb4v).later h, (hiB.2.later hb4v).later h⟩
  have HIA : Hid (∀ W', Below v4.heap.size v4 W' → IntsAt W' aA ([] : List Int) ∧ IntsAt W' bA ([] : List Int)) := Lib.hid fun W' h => HIAn.out W' (below_step hb4v h)
  clear HIAn
  have H4v := Lib.hid h4v
  generalize w4.heap.size = qB at *
  clear hv4 h4v hb4v hiB H4
  have hc0 := H4v.out.cell (k := 0) (i := 0) rfl rfl
  have hc1 := H4v.out.cell (k := 0) (i := 1) rfl rfl
  have hc2 := H4v.out.cell (k := 0) (i := 2) rfl rfl
  go_wp2_with fail
  refine (HC.out v4 H4v.out.below).mono ?_
  rintro e w5 ⟨aC, bC, cC, dC, rfl, hiC, hb5⟩
  have H5 := Lib.hid (H4v.out.call hb5)
  have HIAn : Hid (∀ W', Below w5.heap.size w5 W' → IntsAt W' aA ([] : List Int) ∧ IntsAt W' bA ([] : List Int)) := Lib.hid fun W' h => HIA.out W' (below_step hb5 h)
  clear HIA
  have HIBn : Hid (∀ W', Below w5.heap.size w5 W' → IntsAt W' aB ([] : List Int) ∧ IntsAt W' bB ([] : List Int)) := Lib.hid fun W' h => HIB.out W' (below_step hb5 h)
  clear HIB
  clear hb5 H4v hc0 hc1 hc2
  go_upto_region 6 with fail
  obtain ⟨v5, hv5⟩ : ∃ x, x = w5.alloc (.cells #[.slice aC 0 cC, .slice bC 0 dC, .int .i64 0] 24) := ⟨_, rfl⟩
  rw [← hv5]
  have h5v : HH w v5 [(w.heap.size, rowO 24 [.slice aS S.length cS, .slice aM M.length cM, .int .i64 L]), (qA, rowO 24 [.slice aA 0 cA, .slice bA 0 dA, .int .i64 0]), (qB, rowO 24 [.slice aB 0 cB, .slice bB 0 dB, .int .i64 0]), (w5.heap.size, rowO 24 [.slice aC 0 cC, .slice bC 0 dC, .int .i64 0])] [] := by
    rw [hv5]; exact H5.out.alloc #[.slice aC 0 cC, .slice bC 0 dC, .int .i64 0] 24 rfl rfl
  have hb5v : Below w5.heap.size w5 v5 := by rw [hv5]; exact (Below.refl _ _).alloc (Nat.le_refl _) _
  have HIC : Hid (∀ W', Below v5.heap.size v5 W' → IntsAt W' aC ([] : List Int) ∧ IntsAt W' bC ([] : List Int)) := Lib.hid fun W' h => ⟨(hiC.1.later hb5v).later h, (hiC.2.later hb5v).later h⟩
  have HIA : Hid (∀ W', Below v5.heap.size v5 W' → IntsAt W' aA ([] : List Int) ∧ IntsAt W' bA ([] : List Int)) := Lib.hid fun W' h => HIAn.out W' (below_step hb5v h)
  clear HIAn
  have HIB : Hid (∀ W', Below v5.heap.size v5 W' → IntsAt W' aB ([] : List Int) ∧ IntsAt W' bB ([] : List Int)) := Lib.hid fun W' h => HIBn.out W' (below_step hb5v h)
  clear HIBn
  have H5v := Lib.hid h5v
  generalize w5.heap.size = qC at *
  clear hv5 h5v hb5v hiC H5
  have hc0 := H5v.out.cell (k := 0) (i := 0) rfl rfl
  have hc1 := H5v.out.cell (k := 0) (i := 1) rfl rfl
  have hc2 := H5v.out.cell (k := 0) (i := 2) rfl rfl
  go_wp2_with fail
  refine (H32.out v5 H5v.out.below).mono ?_
  rintro e w6 ⟨rfl, hb6⟩
  have H6 := Lib.hid (H5v.out.call hb6)
  have HIAn : Hid (∀ W', Below w6.heap.size w6 W' → IntsAt W' aA ([] : List Int) ∧ IntsAt W' bA ([] : List Int)) := Lib.hid fun W' h => HIA.out W' (below_step hb6 h)
  clear HIA
  have HIA := HIAn
  clear HIAn
  have HIBn : Hid (∀ W', Below w6.heap.size w6 W' → IntsAt W' aB ([] : List Int) ∧ IntsAt W' bB ([] : List Int)) := Lib.hid fun W' h => HIB.out W' (below_step hb6 h)
  clear HIB
  have HIB := HIBn
  clear HIBn
  have HICn : Hid (∀ W', Below w6.heap.size w6 W' → IntsAt W' aC ([] : List Int) ∧ IntsAt W' bC ([] : List Int)) := Lib.hid fun W' h => HIC.out W' (below_step hb6 h)
  clear HIC
  have HIC := HICn
  clear HICn
  clear hb6 H5v hc0 hc1 hc2
  have hc0 := H6.out.cell (k := 1) (i := 0) rfl rfl
  have hc1 := H6.out.cell (k := 1) (i := 1) rfl rfl
  have hc2 := H6.out.cell (k := 1) (i := 2) rfl rfl
  go_wp2_with fail
  refine (zero_yes aA bA cA dA w6).mono ?_
  rintro e w7 ⟨rfl, hb7⟩
  have H7 := Lib.hid (H6.out.call hb7)
  have HIAn : Hid (∀ W', Below w7.heap.size w7 W' → IntsAt W' aA ([] : List Int) ∧ IntsAt W' bA ([] : List Int)) := Lib.hid fun W' h => HIA.out W' (below_step hb7 h)
  clear HIA
  have HIA := HIAn
  clear HIAn
  have HIBn : Hid (∀ W', Below w7.heap.size w7 W' → IntsAt W' aB ([] : List Int) ∧ IntsAt W' bB ([] : List Int)) := Lib.hid fun W' h => HIB.out W' (below_step hb7 h)
  clear HIB
  have HIB := HIBn
  clear HIBn
  have HICn : Hid (∀ W', Below w7.heap.size w7 W' → IntsAt W' aC ([] : List Int) ∧ IntsAt W' bC ([] : List Int)) := Lib.hid fun W' h => HIC.out W' (below_step hb7 h)
  clear HIC
  have HIC := HICn
  clear HICn
  clear hb7 H6 hc0 hc1 hc2
  have hc0 := H7.out.cell (k := 2) (i := 0) rfl rfl
  have hc1 := H7.out.cell (k := 2) (i := 1) rfl rfl
  have hc2 := H7.out.cell (k := 2) (i := 2) rfl rfl
  go_wp2_with fail
  refine (zero_yes aB bB cB dB w7).mono ?_
  rintro e w8 ⟨rfl, hb8⟩
  have H8 := Lib.hid (H7.out.call hb8)
  have HIAn : Hid (∀ W', Below w8.heap.size w8 W' → IntsAt W' aA ([] : List Int) ∧ IntsAt W' bA ([] : List Int)) := Lib.hid fun W' h => HIA.out W' (below_step hb8 h)
  clear HIA
  have HIA := HIAn
  clear HIAn
  have HIBn : Hid (∀ W', Below w8.heap.size w8 W' → IntsAt W' aB ([] : List Int) ∧ IntsAt W' bB ([] : List Int)) := Lib.hid fun W' h => HIB.out W' (below_step hb8 h)
  clear HIB
  have HIB := HIBn
  clear HIBn
  have HICn : Hid (∀ W', Below w8.heap.size w8 W' → IntsAt W' aC ([] : List Int) ∧ IntsAt W' bC ([] : List Int)) := Lib.hid fun W' h => HIC.out W' (below_step hb8 h)
  clear HIC
  have HIC := HICn
  clear HICn
  clear hb8 H7 hc0 hc1 hc2
  have hc0 := H8.out.cell (k := 3) (i := 0) rfl rfl
  have hc1 := H8.out.cell (k := 3) (i := 1) rfl rfl
  have hc2 := H8.out.cell (k := 3) (i := 2) rfl rfl
  go_wp2_with fail
  refine (zero_yes aC bC cC dC w8).mono ?_
  rintro e w9 ⟨rfl, hb9⟩
  have H9 := Lib.hid (H8.out.call hb9)
  have HIAn : Hid (∀ W', Below w9.heap.size w9 W' → IntsAt W' aA ([] : List Int) ∧ IntsAt W' bA ([] : List Int)) := Lib.hid fun W' h => HIA.out W' (below_step hb9 h)
  clear HIA
  have HIA := HIAn
  clear HIAn
  have HIBn : Hid (∀ W', Below w9.heap.size w9 W' → IntsAt W' aB ([] : List Int) ∧ IntsAt W' bB ([] : List Int)) := Lib.hid fun W' h => HIB.out W' (below_step hb9 h)
  clear HIB
  have HIB := HIBn
  clear HIBn
  have HICn : Hid (∀ W', Below w9.heap.size w9 W' → IntsAt W' aC ([] : List Int) ∧ IntsAt W' bC ([] : List Int)) := Lib.hid fun W' h => HIC.out W' (below_step hb9 h)
  clear HIC
  have HIC := HICn
  clear HICn
  clear hb9 H8 hc0 hc1 hc2
  go_wp2_with fail
  go_ret
  exact ⟨rfl, H9.out.below⟩
set_option maxRecDepth 100000 in
set_option maxHeartbeats 16000000 in
theorem mpa_big_out (S M : List Int) (L : Int) (aS aM : Option Addr) (cS cM : Nat) (i N : Nat) (w : World) (hf : few6B S M = true) (hv : vldB S M L = true) (hN : compsN S M L = (N : Int)) (hk : N ≤ i) (hq : S.length ≤ i) (hi63 : (i : Int) ≤ 9223372036854775807) (hS : IntsAt w aS S) (hM : IntsAt w aM M) :
    Calls Try.prog 14 #[.agg #[.slice aS S.length cS, .slice aM M.length cM, .int .i64 L], .int .i64 (i : Int)] w fun e w' => e = .returned (.bool true) ∧ Below w.heap.size w w' := by
  have hl : S.length ≤ 14 ∧ M.length ≤ 70 := by
    have := of_decide_eq_true hf
    exact ⟨this.1, this.2⟩
  have hSl : S.length ≤ 1000000000 := by omega
  have hMl : M.length ≤ 1000000000 := by omega
  obtain ⟨W, hW⟩ : ∃ W, W = (w.alloc (.cells #[.slice aS S.length cS, .slice aM M.length cM, .int .i64 L] 24)) := ⟨_, rfl⟩
  have h0 : HH w W [(w.heap.size, rowO 24 [.slice aS S.length cS, .slice aM M.length cM, .int .i64 L])] [] := by rw [hW]; exact ((HH.start w).alloc #[.slice aS S.length cS, .slice aM M.length cM, .int .i64 L] 24 rfl rfl)
  have H0 := Lib.hid h0
  have H42 : Hid (∀ W', Below w.heap.size w W' → Calls Try.prog 42 #[.agg #[.slice aS S.length cS, .slice aM M.length cM, .int .i64 L]] W' fun e w' => e = .returned (.bool true) ∧ Below W'.heap.size W' w') := Lib.hid fun W' hW' => by rw [← hf]; exact few6_any S M L aS aM cS cM W' (by unfold maxLen; omega) (by unfold maxLen; omega)
  have H32 : Hid (∀ W', Below w.heap.size w W' → Calls Try.prog 32 #[.agg #[.slice aS S.length cS, .slice aM M.length cM, .int .i64 L]] W' fun e w' => e = .returned (.bool true) ∧ Below W'.heap.size W' w') := Lib.hid fun W' hW' => by rw [← hv]; exact rvalid_any S M L aS aM cS cM W' hSl hMl (hS.later hW') (hM.later hW')
  have H58 : Hid (∀ W', Below w.heap.size w W' → Calls Try.prog 58 #[.agg #[.slice aS S.length cS, .slice aM M.length cM, .int .i64 L]] W' fun e w' => e = .returned (.int .i64 (N : Int)) ∧ Below W'.heap.size W' w') := Lib.hid fun W' hW' => by rw [← hN]; exact rcomponents_any S M L aS aM cS cM W' hv (hS.later hW') (hM.later hW')
  have hN2 := hN
  rw [compsN, if_pos hv] at hN2
  have HA : Hid (∀ W', Below w.heap.size w W' → Calls Try.prog 56 #[.agg #[.slice aS S.length cS, .slice aM M.length cM, .int .i64 L], .int .i64 (i : Int)] W' (fun e w' => ∃ (a b : Option Addr) (c d : Nat), e = .returned (.tuple #[.agg #[.slice a 0 c, .slice b 0 d, .int .i64 0], .int .i64 2]) ∧ (IntsAt w' a [] ∧ IntsAt w' b []) ∧ Below W'.heap.size W' w')) := Lib.hid fun W' hW' => (rone_out S M L aS aM cS cM (i : Int) W' hv (.inr (by omega)) (hS.later hW') (hM.later hW')).mono fun e w' ⟨a, b, c, d, he, h1, h2, hb⟩ => ⟨a, b, c, d, he, ⟨h1, h2⟩, hb⟩
  have HB : Hid (∀ W', Below w.heap.size w W' → Calls Try.prog 52 #[.agg #[.slice aS S.length cS, .slice aM M.length cM, .int .i64 L], .int .i64 (i : Int)] W' (fun e w' => ∃ (a b : Option Addr) (c d : Nat), e = .returned (.tuple #[.agg #[.slice a 0 c, .slice b 0 d, .int .i64 0], .int .i64 2]) ∧ (IntsAt w' a [] ∧ IntsAt w' b []) ∧ Below W'.heap.size W' w')) := Lib.hid fun W' hW' => (switch_out S M L aS aM cS cM (i : Int) W' hv (.inr (by omega)) (hS.later hW') (hM.later hW')).mono fun e w' ⟨a, b, c, d, he, h1, h2, hb⟩ => ⟨a, b, c, d, he, ⟨h1, h2⟩, hb⟩
  have HC : Hid (∀ W', Below w.heap.size w W' → Calls Try.prog 57 #[.agg #[.slice aS S.length cS, .slice aM M.length cM, .int .i64 L], .int .i64 (i : Int)] W' (fun e w' => ∃ (a b : Option Addr) (c d : Nat), e = .returned (.tuple #[.agg #[.slice a 0 c, .slice b 0 d, .int .i64 0], .int .i64 2]) ∧ (IntsAt w' a [] ∧ IntsAt w' b []) ∧ Below W'.heap.size W' w')) := Lib.hid fun W' hW' => (smooth_out S M L aS aM cS cM (i : Int) W' hv (.inr (by omega)) (hS.later hW') (hM.later hW')).mono fun e w' ⟨a, b, c, d, he, h1, h2, hb⟩ => ⟨a, b, c, d, he, ⟨h1, h2⟩, hb⟩
  have d1 : decide ((i : Int) < 0) = false := decide_eq_false (by omega)
  have d2 : decide ((N : Int) ≤ (i : Int)) = true := decide_eq_true (by omega)
  have d3 : decide (N ≤ i) = true := decide_eq_true (by omega)
  have d4 : decide ((S.length : Int) ≤ (i : Int)) = true := decide_eq_true (by omega)
  have d5 : decide (S.length ≤ i) = true := decide_eq_true (by omega)
  clear hf hv hSl hMl hS hM hl h0 hN hN2
  go_enter Try.func14, Try.ntmps14
  go_wp2_with fail
  rw [← hW]
  clear hW
  refine (awake6_any W).mono ?_
  rintro e w1 ⟨rfl, hb1⟩
  have H1 := Lib.hid (H0.out.call hb1)
  clear hb1 H0
  have hc0_0 := H1.out.cell (k := 0) (i := 0) rfl rfl
  have hc0_1 := H1.out.cell (k := 0) (i := 1) rfl rfl
  have hc0_2 := H1.out.cell (k := 0) (i := 2) rfl rfl
  go_wp2_with fail
  refine (H42.out w1 H1.out.below).mono ?_
  rintro e w2 ⟨rfl, hb2⟩
  have H2 := Lib.hid (H1.out.call hb2)
  clear hb2 H1
  clear hc0_0 hc0_1 hc0_2
  have hc0 := H2.out.cell (k := 0) (i := 0) rfl rfl
  have hc1 := H2.out.cell (k := 0) (i := 1) rfl rfl
  have hc2 := H2.out.cell (k := 0) (i := 2) rfl rfl
  go_wp2_with fail
  refine (HA.out w2 H2.out.below).mono ?_
  rintro e w3 ⟨aA, bA, cA, dA, rfl, hiA, hb3⟩
  have H3 := Lib.hid (H2.out.call hb3)
  clear hb3 H2 hc0 hc1 hc2
  go_upto_region 4 with fail
  obtain ⟨v3, hv3⟩ : ∃ x, x = w3.alloc (.cells #[.slice aA 0 cA, .slice bA 0 dA, .int .i64 0] 24) := ⟨_, rfl⟩
  rw [← hv3]
  have h3v : HH w v3 [(w.heap.size, rowO 24 [.slice aS S.length cS, .slice aM M.length cM, .int .i64 L]), (w3.heap.size, rowO 24 [.slice aA 0 cA, .slice bA 0 dA, .int .i64 0])] [] := by
    rw [hv3]; exact H3.out.alloc #[.slice aA 0 cA, .slice bA 0 dA, .int .i64 0] 24 rfl rfl
  have hb3v : Below w3.heap.size w3 v3 := by rw [hv3]; exact (Below.refl _ _).alloc (Nat.le_refl _) _
  have HIA : Hid (∀ W', Below v3.heap.size v3 W' → IntsAt W' aA ([] : List Int) ∧ IntsAt W' bA ([] : List Int)) := Lib.hid fun W' h => ⟨(hiA.1.later hb3v).later h, (hiA.2.later hb3v).later h⟩
  have H3v := Lib.hid h3v
  generalize w3.heap.size = qA at *
  clear hv3 h3v hb3v hiA H3
  have hc0 := H3v.out.cell (k := 0) (i := 0) rfl rfl
  have hc1 := H3v.out.cell (k := 0) (i := 1) rfl rfl
  have hc2 := H3v.out.cell (k := 0) (i := 2) rfl rfl
  go_wp2_with fail
  refine (HB.out v3 H3v.out.below).mono ?_
  rintro e w4 ⟨aB, bB, cB, dB, rfl, hiB, hb4⟩
  have H4 := Lib.hid (H3v.out.call hb4)
  have HIAn : Hid (∀ W', Below w4.heap.size w4 W' → IntsAt W' aA ([] : List Int) ∧ IntsAt W' bA ([] : List Int)) := Lib.hid fun W' h => HIA.out W' (below_step hb4 h)
  clear HIA
  clear hb4 H3v hc0 hc1 hc2
  go_upto_region 5 with fail
  obtain ⟨v4, hv4⟩ : ∃ x, x = w4.alloc (.cells #[.slice aB 0 cB, .slice bB 0 dB, .int .i64 0] 24) := ⟨_, rfl⟩
  rw [← hv4]
  have h4v : HH w v4 [(w.heap.size, rowO 24 [.slice aS S.length cS, .slice aM M.length cM, .int .i64 L]), (qA, rowO 24 [.slice aA 0 cA, .slice bA 0 dA, .int .i64 0]), (w4.heap.size, rowO 24 [.slice aB 0 cB, .slice bB 0 dB, .int .i64 0])] [] := by
    rw [hv4]; exact H4.out.alloc #[.slice aB 0 cB, .slice bB 0 dB, .int .i64 0] 24 rfl rfl
  have hb4v : Below w4.heap.size w4 v4 := by rw [hv4]; exact (Below.refl _ _).alloc (Nat.le_refl _) _
  have HIB : Hid (∀ W', Below v4.heap.size v4 W' → IntsAt W' aB ([] : List Int) ∧ IntsAt W' bB ([] : List Int)) := Lib.hid fun W' h => ⟨(hiB.1.later hb4v).later h, (hiB.2.later hb4v).later h⟩
  have HIA : Hid (∀ W', Below v4.heap.size v4 W' → IntsAt W' aA ([] : List Int) ∧ IntsAt W' bA ([] : List Int)) := Lib.hid fun W' h => HIAn.out W' (below_step hb4v h)
  clear HIAn
  have H4v := Lib.hid h4v
  generalize w4.heap.size = qB at *
  clear hv4 h4v hb4v hiB H4
  have hc0 := H4v.out.cell (k := 0) (i := 0) rfl rfl
  have hc1 := H4v.out.cell (k := 0) (i := 1) rfl rfl
  have hc2 := H4v.out.cell (k := 0) (i := 2) rfl rfl
  go_wp2_with fail
  refine (HC.out v4 H4v.out.below).mono ?_
  rintro e w5 ⟨aC, bC, cC, dC, rfl, hiC, hb5⟩
  have H5 := Lib.hid (H4v.out.call hb5)
  have HIAn : Hid (∀ W', Below w5.heap.size w5 W' → IntsAt W' aA ([] : List Int) ∧ IntsAt W' bA ([] : List Int)) := Lib.hid fun W' h => HIA.out W' (below_step hb5 h)
  clear HIA
  have HIBn : Hid (∀ W', Below w5.heap.size w5 W' → IntsAt W' aB ([] : List Int) ∧ IntsAt W' bB ([] : List Int)) := Lib.hid fun W' h => HIB.out W' (below_step hb5 h)
  clear HIB
  clear hb5 H4v hc0 hc1 hc2
  go_upto_region 6 with fail
  obtain ⟨v5, hv5⟩ : ∃ x, x = w5.alloc (.cells #[.slice aC 0 cC, .slice bC 0 dC, .int .i64 0] 24) := ⟨_, rfl⟩
  rw [← hv5]
  have h5v : HH w v5 [(w.heap.size, rowO 24 [.slice aS S.length cS, .slice aM M.length cM, .int .i64 L]), (qA, rowO 24 [.slice aA 0 cA, .slice bA 0 dA, .int .i64 0]), (qB, rowO 24 [.slice aB 0 cB, .slice bB 0 dB, .int .i64 0]), (w5.heap.size, rowO 24 [.slice aC 0 cC, .slice bC 0 dC, .int .i64 0])] [] := by
    rw [hv5]; exact H5.out.alloc #[.slice aC 0 cC, .slice bC 0 dC, .int .i64 0] 24 rfl rfl
  have hb5v : Below w5.heap.size w5 v5 := by rw [hv5]; exact (Below.refl _ _).alloc (Nat.le_refl _) _
  have HIC : Hid (∀ W', Below v5.heap.size v5 W' → IntsAt W' aC ([] : List Int) ∧ IntsAt W' bC ([] : List Int)) := Lib.hid fun W' h => ⟨(hiC.1.later hb5v).later h, (hiC.2.later hb5v).later h⟩
  have HIA : Hid (∀ W', Below v5.heap.size v5 W' → IntsAt W' aA ([] : List Int) ∧ IntsAt W' bA ([] : List Int)) := Lib.hid fun W' h => HIAn.out W' (below_step hb5v h)
  clear HIAn
  have HIB : Hid (∀ W', Below v5.heap.size v5 W' → IntsAt W' aB ([] : List Int) ∧ IntsAt W' bB ([] : List Int)) := Lib.hid fun W' h => HIBn.out W' (below_step hb5v h)
  clear HIBn
  have H5v := Lib.hid h5v
  generalize w5.heap.size = qC at *
  clear hv5 h5v hb5v hiC H5
  have hc0 := H5v.out.cell (k := 0) (i := 0) rfl rfl
  have hc1 := H5v.out.cell (k := 0) (i := 1) rfl rfl
  have hc2 := H5v.out.cell (k := 0) (i := 2) rfl rfl
  go_wp2_with fail
  refine (H32.out v5 H5v.out.below).mono ?_
  rintro e w6 ⟨rfl, hb6⟩
  have H6 := Lib.hid (H5v.out.call hb6)
  have HIAn : Hid (∀ W', Below w6.heap.size w6 W' → IntsAt W' aA ([] : List Int) ∧ IntsAt W' bA ([] : List Int)) := Lib.hid fun W' h => HIA.out W' (below_step hb6 h)
  clear HIA
  have HIA := HIAn
  clear HIAn
  have HIBn : Hid (∀ W', Below w6.heap.size w6 W' → IntsAt W' aB ([] : List Int) ∧ IntsAt W' bB ([] : List Int)) := Lib.hid fun W' h => HIB.out W' (below_step hb6 h)
  clear HIB
  have HIB := HIBn
  clear HIBn
  have HICn : Hid (∀ W', Below w6.heap.size w6 W' → IntsAt W' aC ([] : List Int) ∧ IntsAt W' bC ([] : List Int)) := Lib.hid fun W' h => HIC.out W' (below_step hb6 h)
  clear HIC
  have HIC := HICn
  clear HICn
  clear hb6 H5v hc0 hc1 hc2
  have hc0 := H6.out.cell (k := 0) (i := 0) rfl rfl
  have hc1 := H6.out.cell (k := 0) (i := 1) rfl rfl
  have hc2 := H6.out.cell (k := 0) (i := 2) rfl rfl
  go_wp2_with fail
  refine (H58.out w6 H6.out.below).mono ?_
  rintro e w7 ⟨rfl, hb7⟩
  have H7 := Lib.hid (H6.out.call hb7)
  have HIAn : Hid (∀ W', Below w7.heap.size w7 W' → IntsAt W' aA ([] : List Int) ∧ IntsAt W' bA ([] : List Int)) := Lib.hid fun W' h => HIA.out W' (below_step hb7 h)
  clear HIA
  have HIA := HIAn
  clear HIAn
  have HIBn : Hid (∀ W', Below w7.heap.size w7 W' → IntsAt W' aB ([] : List Int) ∧ IntsAt W' bB ([] : List Int)) := Lib.hid fun W' h => HIB.out W' (below_step hb7 h)
  clear HIB
  have HIB := HIBn
  clear HIBn
  have HICn : Hid (∀ W', Below w7.heap.size w7 W' → IntsAt W' aC ([] : List Int) ∧ IntsAt W' bC ([] : List Int)) := Lib.hid fun W' h => HIC.out W' (below_step hb7 h)
  clear HIC
  have HIC := HICn
  clear HICn
  clear hb7 H6 hc0 hc1 hc2
  have hc0 := H7.out.cell (k := 1) (i := 0) rfl rfl
  have hc1 := H7.out.cell (k := 1) (i := 1) rfl rfl
  have hc2 := H7.out.cell (k := 1) (i := 2) rfl rfl
  go_wp2_with fail
  refine (zero_yes aA bA cA dA w7).mono ?_
  rintro e w8 ⟨rfl, hb8⟩
  have H8 := Lib.hid (H7.out.call hb8)
  have HIAn : Hid (∀ W', Below w8.heap.size w8 W' → IntsAt W' aA ([] : List Int) ∧ IntsAt W' bA ([] : List Int)) := Lib.hid fun W' h => HIA.out W' (below_step hb8 h)
  clear HIA
  have HIA := HIAn
  clear HIAn
  have HIBn : Hid (∀ W', Below w8.heap.size w8 W' → IntsAt W' aB ([] : List Int) ∧ IntsAt W' bB ([] : List Int)) := Lib.hid fun W' h => HIB.out W' (below_step hb8 h)
  clear HIB
  have HIB := HIBn
  clear HIBn
  have HICn : Hid (∀ W', Below w8.heap.size w8 W' → IntsAt W' aC ([] : List Int) ∧ IntsAt W' bC ([] : List Int)) := Lib.hid fun W' h => HIC.out W' (below_step hb8 h)
  clear HIC
  have HIC := HICn
  clear HICn
  clear hb8 H7 hc0 hc1 hc2
  have he0 := H8.out.cell (k := 0) (i := 0) rfl rfl
  have he1 := H8.out.cell (k := 0) (i := 1) rfl rfl
  have he2 := H8.out.cell (k := 0) (i := 2) rfl rfl
  have hc0 := H8.out.cell (k := 2) (i := 0) rfl rfl
  have hc1 := H8.out.cell (k := 2) (i := 1) rfl rfl
  have hc2 := H8.out.cell (k := 2) (i := 2) rfl rfl
  go_wp2_with fail
  refine (zero_yes aB bB cB dB w8).mono ?_
  rintro e w9 ⟨rfl, hb9⟩
  have H9 := Lib.hid (H8.out.call hb9)
  have HIAn : Hid (∀ W', Below w9.heap.size w9 W' → IntsAt W' aA ([] : List Int) ∧ IntsAt W' bA ([] : List Int)) := Lib.hid fun W' h => HIA.out W' (below_step hb9 h)
  clear HIA
  have HIA := HIAn
  clear HIAn
  have HIBn : Hid (∀ W', Below w9.heap.size w9 W' → IntsAt W' aB ([] : List Int) ∧ IntsAt W' bB ([] : List Int)) := Lib.hid fun W' h => HIB.out W' (below_step hb9 h)
  clear HIB
  have HIB := HIBn
  clear HIBn
  have HICn : Hid (∀ W', Below w9.heap.size w9 W' → IntsAt W' aC ([] : List Int) ∧ IntsAt W' bC ([] : List Int)) := Lib.hid fun W' h => HIC.out W' (below_step hb9 h)
  clear HIC
  have HIC := HICn
  clear HICn
  clear hb9 H8 hc0 hc1 hc2
  have hc0 := H9.out.cell (k := 3) (i := 0) rfl rfl
  have hc1 := H9.out.cell (k := 3) (i := 1) rfl rfl
  have hc2 := H9.out.cell (k := 3) (i := 2) rfl rfl
  go_wp2_with fail
  refine (zero_yes aC bC cC dC w9).mono ?_
  rintro e w10 ⟨rfl, hb10⟩
  have H10 := Lib.hid (H9.out.call hb10)
  have HIAn : Hid (∀ W', Below w10.heap.size w10 W' → IntsAt W' aA ([] : List Int) ∧ IntsAt W' bA ([] : List Int)) := Lib.hid fun W' h => HIA.out W' (below_step hb10 h)
  clear HIA
  have HIA := HIAn
  clear HIAn
  have HIBn : Hid (∀ W', Below w10.heap.size w10 W' → IntsAt W' aB ([] : List Int) ∧ IntsAt W' bB ([] : List Int)) := Lib.hid fun W' h => HIB.out W' (below_step hb10 h)
  clear HIB
  have HIB := HIBn
  clear HIBn
  have HICn : Hid (∀ W', Below w10.heap.size w10 W' → IntsAt W' aC ([] : List Int) ∧ IntsAt W' bC ([] : List Int)) := Lib.hid fun W' h => HIC.out W' (below_step hb10 h)
  clear HIC
  have HIC := HICn
  clear HICn
  clear hb10 H9 hc0 hc1 hc2
  go_wp2_with fail
  go_ret
  exact ⟨rfl, H10.out.below⟩
set_option maxRecDepth 100000 in
set_option maxHeartbeats 16000000 in
theorem mpa_in_out (S M : List Int) (L : Int) (aS aM : Option Addr) (cS cM : Nat) (i N : Nat) (w : World) (hf : few6B S M = true) (hv : vldB S M L = true) (hN : compsN S M L = (N : Int)) (hk : i < N) (hq : S.length ≤ i) (hS : IntsAt w aS S) (hM : IntsAt w aM M) :
    Calls Try.prog 14 #[.agg #[.slice aS S.length cS, .slice aM M.length cM, .int .i64 L], .int .i64 (i : Int)] w fun e w' => e = .returned (.bool true) ∧ Below w.heap.size w w' := by
  have hl : S.length ≤ 14 ∧ M.length ≤ 70 := by
    have := of_decide_eq_true hf
    exact ⟨this.1, this.2⟩
  have hSl : S.length ≤ 1000000000 := by omega
  have hMl : M.length ≤ 1000000000 := by omega
  obtain ⟨W, hW⟩ : ∃ W, W = (w.alloc (.cells #[.slice aS S.length cS, .slice aM M.length cM, .int .i64 L] 24)) := ⟨_, rfl⟩
  have h0 : HH w W [(w.heap.size, rowO 24 [.slice aS S.length cS, .slice aM M.length cM, .int .i64 L])] [] := by rw [hW]; exact ((HH.start w).alloc #[.slice aS S.length cS, .slice aM M.length cM, .int .i64 L] 24 rfl rfl)
  have H0 := Lib.hid h0
  have H42 : Hid (∀ W', Below w.heap.size w W' → Calls Try.prog 42 #[.agg #[.slice aS S.length cS, .slice aM M.length cM, .int .i64 L]] W' fun e w' => e = .returned (.bool true) ∧ Below W'.heap.size W' w') := Lib.hid fun W' hW' => by rw [← hf]; exact few6_any S M L aS aM cS cM W' (by unfold maxLen; omega) (by unfold maxLen; omega)
  have H32 : Hid (∀ W', Below w.heap.size w W' → Calls Try.prog 32 #[.agg #[.slice aS S.length cS, .slice aM M.length cM, .int .i64 L]] W' fun e w' => e = .returned (.bool true) ∧ Below W'.heap.size W' w') := Lib.hid fun W' hW' => by rw [← hv]; exact rvalid_any S M L aS aM cS cM W' hSl hMl (hS.later hW') (hM.later hW')
  have H58 : Hid (∀ W', Below w.heap.size w W' → Calls Try.prog 58 #[.agg #[.slice aS S.length cS, .slice aM M.length cM, .int .i64 L]] W' fun e w' => e = .returned (.int .i64 (N : Int)) ∧ Below W'.heap.size W' w') := Lib.hid fun W' hW' => by rw [← hN]; exact rcomponents_any S M L aS aM cS cM W' hv (hS.later hW') (hM.later hW')
  have hN2 := hN
  rw [compsN, if_pos hv] at hN2
  have lA1 : (mulS S (r1S S M i)).length = S.length := mulS_len _ _
  have lA2 : (mvL (trn (r1B S M i)) M).length = M.length := mvL_len _ _
  have HA : Hid (∀ W', Below w.heap.size w W' → Calls Try.prog 56 #[.agg #[.slice aS S.length cS, .slice aM M.length cM, .int .i64 L], .int .i64 (i : Int)] W' (fun e w' => ∃ (a b : Option Addr) (c d : Nat), e = .returned (.tuple #[.agg #[.slice a S.length c, .slice b M.length d, .int .i64 L], .int .i64 0]) ∧ (IntsAt w' a (mulS S (r1S S M i)) ∧ IntsAt w' b (mvL (trn (r1B S M i)) M)) ∧ Below W'.heap.size W' w')) := Lib.hid fun W' hW' => (rone_yes S M L aS aM cS cM i W' hv (by omega) (hS.later hW') (hM.later hW')).mono fun e w' ⟨a, b, c, d, he, h1, h2, hb⟩ => ⟨a, b, c, d, (by rw [lA1, lA2] at he; exact he), ⟨h1, h2⟩, hb⟩
  have HRA : Hid (∀ W', Below w.heap.size w W' → Calls Try.prog 59 #[.agg #[.slice aS S.length cS, .slice aM M.length cM, .int .i64 L], .int .i64 (i : Int)] W' (fun e w' => ∃ (a b : Option Addr) (c d : Nat), e = .returned (.agg #[.slice a S.length c, .slice b M.length d, .int .i64 L]) ∧ (IntsAt w' a (mulS S (r1S S M i)) ∧ IntsAt w' b (mvL (trn (r1B S M i)) M)) ∧ Below W'.heap.size W' w')) := Lib.hid fun W' hW' => (rrone_any S M L aS aM cS cM i W' hv (by omega) (hS.later hW') (hM.later hW')).mono fun e w' ⟨a, b, c, d, he, h1, h2, hb⟩ => ⟨a, b, c, d, he, ⟨h1.ints, h2.ints⟩, hb⟩
  have HEA : Hid (∀ (a b a' b' : Option Addr) (c d c' d' : Nat) (W' : World), IntsAt W' a (mulS S (r1S S M i)) → IntsAt W' b (mvL (trn (r1B S M i)) M) → IntsAt W' a' (mulS S (r1S S M i)) → IntsAt W' b' (mvL (trn (r1B S M i)) M) → Calls Try.prog 47 #[.agg #[.slice a S.length c, .slice b M.length d, .int .i64 L], .agg #[.slice a' S.length c', .slice b' M.length d', .int .i64 L]] W' (fun e w' => e = .returned (.bool true) ∧ Below W'.heap.size W' w')) := Lib.hid fun a b a' b' c d c' d' W' i1 i2 i3 i4 => by
    have h := equalR_any (mulS S (r1S S M i)) (mvL (trn (r1B S M i)) M) (mulS S (r1S S M i)) (mvL (trn (r1B S M i)) M) L L a b a' b' c d c' d' W' (by rw [lA1]; omega) (by rw [lA2]; omega) i1 i2 i3 i4
    rw [show eqD (mulS S (r1S S M i)) (mvL (trn (r1B S M i)) M) L (mulS S (r1S S M i)) (mvL (trn (r1B S M i)) M) L = true from decide_eq_true ⟨rfl, rfl, rfl⟩, lA1, lA2] at h
    exact h
  have HB : Hid (∀ W', Below w.heap.size w W' → Calls Try.prog 52 #[.agg #[.slice aS S.length cS, .slice aM M.length cM, .int .i64 L], .int .i64 (i : Int)] W' (fun e w' => ∃ (a b : Option Addr) (c d : Nat), e = .returned (.tuple #[.agg #[.slice a 0 c, .slice b 0 d, .int .i64 0], .int .i64 2]) ∧ (IntsAt w' a [] ∧ IntsAt w' b []) ∧ Below W'.heap.size W' w')) := Lib.hid fun W' hW' => (switch_out S M L aS aM cS cM (i : Int) W' hv (.inr (by omega)) (hS.later hW') (hM.later hW')).mono fun e w' ⟨a, b, c, d, he, h1, h2, hb⟩ => ⟨a, b, c, d, he, ⟨h1, h2⟩, hb⟩
  have HC : Hid (∀ W', Below w.heap.size w W' → Calls Try.prog 57 #[.agg #[.slice aS S.length cS, .slice aM M.length cM, .int .i64 L], .int .i64 (i : Int)] W' (fun e w' => ∃ (a b : Option Addr) (c d : Nat), e = .returned (.tuple #[.agg #[.slice a 0 c, .slice b 0 d, .int .i64 0], .int .i64 2]) ∧ (IntsAt w' a [] ∧ IntsAt w' b []) ∧ Below W'.heap.size W' w')) := Lib.hid fun W' hW' => (smooth_out S M L aS aM cS cM (i : Int) W' hv (.inr (by omega)) (hS.later hW') (hM.later hW')).mono fun e w' ⟨a, b, c, d, he, h1, h2, hb⟩ => ⟨a, b, c, d, he, ⟨h1, h2⟩, hb⟩
  have d1 : decide ((i : Int) < 0) = false := decide_eq_false (by omega)
  have d2 : decide ((N : Int) ≤ (i : Int)) = false := decide_eq_false (by omega)
  have d3 : decide (N ≤ i) = false := decide_eq_false (by omega)
  have d4 : decide ((S.length : Int) ≤ (i : Int)) = true := decide_eq_true (by omega)
  have d5 : decide (S.length ≤ i) = true := decide_eq_true (by omega)
  obtain ⟨SA, hSA⟩ : ∃ x, x = (mulS S (r1S S M i)) := ⟨_, rfl⟩
  rw [← hSA] at HA HRA HEA
  clear hSA
  obtain ⟨MA, hMA⟩ : ∃ x, x = (mvL (trn (r1B S M i)) M) := ⟨_, rfl⟩
  rw [← hMA] at HA HRA HEA
  clear hMA
  clear hf hv hSl hMl hS hM hl h0 hN hN2 lA1 lA2
  go_enter Try.func14, Try.ntmps14
  go_wp2_with fail
  rw [← hW]
  clear hW
  refine (awake6_any W).mono ?_
  rintro e w1 ⟨rfl, hb1⟩
  have H1 := Lib.hid (H0.out.call hb1)
  clear hb1 H0
  have hc0_0 := H1.out.cell (k := 0) (i := 0) rfl rfl
  have hc0_1 := H1.out.cell (k := 0) (i := 1) rfl rfl
  have hc0_2 := H1.out.cell (k := 0) (i := 2) rfl rfl
  go_wp2_with fail
  refine (H42.out w1 H1.out.below).mono ?_
  rintro e w2 ⟨rfl, hb2⟩
  have H2 := Lib.hid (H1.out.call hb2)
  clear hb2 H1
  clear hc0_0 hc0_1 hc0_2
  have hc0 := H2.out.cell (k := 0) (i := 0) rfl rfl
  have hc1 := H2.out.cell (k := 0) (i := 1) rfl rfl
  have hc2 := H2.out.cell (k := 0) (i := 2) rfl rfl
  go_wp2_with fail
  refine (HA.out w2 H2.out.below).mono ?_
  rintro e w3 ⟨aA, bA, cA, dA, rfl, hiA, hb3⟩
  have H3 := Lib.hid (H2.out.call hb3)
  clear hb3 H2 hc0 hc1 hc2
  go_upto_region 4 with fail
  obtain ⟨v3, hv3⟩ : ∃ x, x = w3.alloc (.cells #[.slice aA S.length cA, .slice bA M.length dA, .int .i64 L] 24) := ⟨_, rfl⟩
  rw [← hv3]
  have h3v : HH w v3 [(w.heap.size, rowO 24 [.slice aS S.length cS, .slice aM M.length cM, .int .i64 L]), (w3.heap.size, rowO 24 [.slice aA S.length cA, .slice bA M.length dA, .int .i64 L])] [] := by
    rw [hv3]; exact H3.out.alloc #[.slice aA S.length cA, .slice bA M.length dA, .int .i64 L] 24 rfl rfl
  have hb3v : Below w3.heap.size w3 v3 := by rw [hv3]; exact (Below.refl _ _).alloc (Nat.le_refl _) _
  have HIA : Hid (∀ W', Below v3.heap.size v3 W' → IntsAt W' aA SA ∧ IntsAt W' bA MA) := Lib.hid fun W' h => ⟨(hiA.1.later hb3v).later h, (hiA.2.later hb3v).later h⟩
  have H3v := Lib.hid h3v
  generalize w3.heap.size = qA at *
  clear hv3 h3v hb3v hiA H3
  have hc0 := H3v.out.cell (k := 0) (i := 0) rfl rfl
  have hc1 := H3v.out.cell (k := 0) (i := 1) rfl rfl
  have hc2 := H3v.out.cell (k := 0) (i := 2) rfl rfl
  go_wp2_with fail
  refine (HB.out v3 H3v.out.below).mono ?_
  rintro e w4 ⟨aB, bB, cB, dB, rfl, hiB, hb4⟩
  have H4 := Lib.hid (H3v.out.call hb4)
  have HIAn : Hid (∀ W', Below w4.heap.size w4 W' → IntsAt W' aA SA ∧ IntsAt W' bA MA) := Lib.hid fun W' h => HIA.out W' (below_step hb4 h)
  clear HIA
  clear hb4 H3v hc0 hc1 hc2
  go_upto_region 5 with fail
  obtain ⟨v4, hv4⟩ : ∃ x, x = w4.alloc (.cells #[.slice aB 0 cB, .slice bB 0 dB, .int .i64 0] 24) := ⟨_, rfl⟩
  rw [← hv4]
  have h4v : HH w v4 [(w.heap.size, rowO 24 [.slice aS S.length cS, .slice aM M.length cM, .int .i64 L]), (qA, rowO 24 [.slice aA S.length cA, .slice bA M.length dA, .int .i64 L]), (w4.heap.size, rowO 24 [.slice aB 0 cB, .slice bB 0 dB, .int .i64 0])] [] := by
    rw [hv4]; exact H4.out.alloc #[.slice aB 0 cB, .slice bB 0 dB, .int .i64 0] 24 rfl rfl
  have hb4v : Below w4.heap.size w4 v4 := by rw [hv4]; exact (Below.refl _ _).alloc (Nat.le_refl _) _
  have HIB : Hid (∀ W', Below v4.heap.size v4 W' → IntsAt W' aB ([] : List Int) ∧ IntsAt W' bB ([] : List Int)) := Lib.hid fun W' h => ⟨(hiB.1.later hb4v).later h, (hiB.2.later hb4v).later h⟩
  have HIA : Hid (∀ W', Below v4.heap.size v4 W' → IntsAt W' aA SA ∧ IntsAt W' bA MA) := Lib.hid fun W' h => HIAn.out W' (below_step hb4v h)
  clear HIAn
  have H4v := Lib.hid h4v
  generalize w4.heap.size = qB at *
  clear hv4 h4v hb4v hiB H4
  have hc0 := H4v.out.cell (k := 0) (i := 0) rfl rfl
  have hc1 := H4v.out.cell (k := 0) (i := 1) rfl rfl
  have hc2 := H4v.out.cell (k := 0) (i := 2) rfl rfl
  go_wp2_with fail
  refine (HC.out v4 H4v.out.below).mono ?_
  rintro e w5 ⟨aC, bC, cC, dC, rfl, hiC, hb5⟩
  have H5 := Lib.hid (H4v.out.call hb5)
  have HIAn : Hid (∀ W', Below w5.heap.size w5 W' → IntsAt W' aA SA ∧ IntsAt W' bA MA) := Lib.hid fun W' h => HIA.out W' (below_step hb5 h)
  clear HIA
  have HIBn : Hid (∀ W', Below w5.heap.size w5 W' → IntsAt W' aB ([] : List Int) ∧ IntsAt W' bB ([] : List Int)) := Lib.hid fun W' h => HIB.out W' (below_step hb5 h)
  clear HIB
  clear hb5 H4v hc0 hc1 hc2
  go_upto_region 6 with fail
  obtain ⟨v5, hv5⟩ : ∃ x, x = w5.alloc (.cells #[.slice aC 0 cC, .slice bC 0 dC, .int .i64 0] 24) := ⟨_, rfl⟩
  rw [← hv5]
  have h5v : HH w v5 [(w.heap.size, rowO 24 [.slice aS S.length cS, .slice aM M.length cM, .int .i64 L]), (qA, rowO 24 [.slice aA S.length cA, .slice bA M.length dA, .int .i64 L]), (qB, rowO 24 [.slice aB 0 cB, .slice bB 0 dB, .int .i64 0]), (w5.heap.size, rowO 24 [.slice aC 0 cC, .slice bC 0 dC, .int .i64 0])] [] := by
    rw [hv5]; exact H5.out.alloc #[.slice aC 0 cC, .slice bC 0 dC, .int .i64 0] 24 rfl rfl
  have hb5v : Below w5.heap.size w5 v5 := by rw [hv5]; exact (Below.refl _ _).alloc (Nat.le_refl _) _
  have HIC : Hid (∀ W', Below v5.heap.size v5 W' → IntsAt W' aC ([] : List Int) ∧ IntsAt W' bC ([] : List Int)) := Lib.hid fun W' h => ⟨(hiC.1.later hb5v).later h, (hiC.2.later hb5v).later h⟩
  have HIA : Hid (∀ W', Below v5.heap.size v5 W' → IntsAt W' aA SA ∧ IntsAt W' bA MA) := Lib.hid fun W' h => HIAn.out W' (below_step hb5v h)
  clear HIAn
  have HIB : Hid (∀ W', Below v5.heap.size v5 W' → IntsAt W' aB ([] : List Int) ∧ IntsAt W' bB ([] : List Int)) := Lib.hid fun W' h => HIBn.out W' (below_step hb5v h)
  clear HIBn
  have H5v := Lib.hid h5v
  generalize w5.heap.size = qC at *
  clear hv5 h5v hb5v hiC H5
  have hc0 := H5v.out.cell (k := 0) (i := 0) rfl rfl
  have hc1 := H5v.out.cell (k := 0) (i := 1) rfl rfl
  have hc2 := H5v.out.cell (k := 0) (i := 2) rfl rfl
  go_wp2_with fail
  refine (H32.out v5 H5v.out.below).mono ?_
  rintro e w6 ⟨rfl, hb6⟩
  have H6 := Lib.hid (H5v.out.call hb6)
  have HIAn : Hid (∀ W', Below w6.heap.size w6 W' → IntsAt W' aA SA ∧ IntsAt W' bA MA) := Lib.hid fun W' h => HIA.out W' (below_step hb6 h)
  clear HIA
  have HIA := HIAn
  clear HIAn
  have HIBn : Hid (∀ W', Below w6.heap.size w6 W' → IntsAt W' aB ([] : List Int) ∧ IntsAt W' bB ([] : List Int)) := Lib.hid fun W' h => HIB.out W' (below_step hb6 h)
  clear HIB
  have HIB := HIBn
  clear HIBn
  have HICn : Hid (∀ W', Below w6.heap.size w6 W' → IntsAt W' aC ([] : List Int) ∧ IntsAt W' bC ([] : List Int)) := Lib.hid fun W' h => HIC.out W' (below_step hb6 h)
  clear HIC
  have HIC := HICn
  clear HICn
  clear hb6 H5v hc0 hc1 hc2
  have hc0 := H6.out.cell (k := 0) (i := 0) rfl rfl
  have hc1 := H6.out.cell (k := 0) (i := 1) rfl rfl
  have hc2 := H6.out.cell (k := 0) (i := 2) rfl rfl
  go_wp2_with fail
  refine (H58.out w6 H6.out.below).mono ?_
  rintro e w7 ⟨rfl, hb7⟩
  have H7 := Lib.hid (H6.out.call hb7)
  have HIAn : Hid (∀ W', Below w7.heap.size w7 W' → IntsAt W' aA SA ∧ IntsAt W' bA MA) := Lib.hid fun W' h => HIA.out W' (below_step hb7 h)
  clear HIA
  have HIA := HIAn
  clear HIAn
  have HIBn : Hid (∀ W', Below w7.heap.size w7 W' → IntsAt W' aB ([] : List Int) ∧ IntsAt W' bB ([] : List Int)) := Lib.hid fun W' h => HIB.out W' (below_step hb7 h)
  clear HIB
  have HIB := HIBn
  clear HIBn
  have HICn : Hid (∀ W', Below w7.heap.size w7 W' → IntsAt W' aC ([] : List Int) ∧ IntsAt W' bC ([] : List Int)) := Lib.hid fun W' h => HIC.out W' (below_step hb7 h)
  clear HIC
  have HIC := HICn
  clear HICn
  clear hb7 H6 hc0 hc1 hc2
  have HK : Hid (∀ w', Below w7.heap.size w7 w' → HH w w' [(w.heap.size, rowO 24 [.slice aS S.length cS, .slice aM M.length cM, .int .i64 L]), (qA, rowO 24 [.slice aA S.length cA, .slice bA M.length dA, .int .i64 L]), (qB, rowO 24 [.slice aB 0 cB, .slice bB 0 dB, .int .i64 0]), (qC, rowO 24 [.slice aC 0 cC, .slice bC 0 dC, .int .i64 0])] []) := Lib.hid fun w' h => H7.out.call h
  have HKS : Hid (∀ w', Below w7.heap.size w7 w' → w'.cell? ⟨w.heap.size, 0, none⟩ = some (.slice aS S.length cS) ∧ w'.cell? ⟨w.heap.size, 1, none⟩ = some (.slice aM M.length cM) ∧ w'.cell? ⟨w.heap.size, 2, none⟩ = some (.int .i64 L) ∧ w'.cell? ⟨qA, 0, none⟩ = some (.slice aA S.length cA) ∧ w'.cell? ⟨qA, 1, none⟩ = some (.slice bA M.length dA) ∧ w'.cell? ⟨qA, 2, none⟩ = some (.int .i64 L)) := Lib.hid fun w' h => ⟨(HK.out _ h).cell (k := 0) (i := 0) rfl rfl, (HK.out _ h).cell (k := 0) (i := 1) rfl rfl, (HK.out _ h).cell (k := 0) (i := 2) rfl rfl, (HK.out _ h).cell (k := 1) (i := 0) rfl rfl, (HK.out _ h).cell (k := 1) (i := 1) rfl rfl, (HK.out _ h).cell (k := 1) (i := 2) rfl rfl⟩
  have Hr := Lib.hid ((Below.refl w7.heap.size w7).drew)
  go_wp2_with fail
  go_region_held3 (fun w' => w'.cell? ⟨w.heap.size, 0, none⟩ = some (.slice aS S.length cS) ∧ w'.cell? ⟨w.heap.size, 1, none⟩ = some (.slice aM M.length cM) ∧ w'.cell? ⟨w.heap.size, 2, none⟩ = some (.int .i64 L) ∧ w'.cell? ⟨qA, 0, none⟩ = some (.slice aA S.length cA) ∧ w'.cell? ⟨qA, 1, none⟩ = some (.slice bA M.length dA) ∧ w'.cell? ⟨qA, 2, none⟩ = some (.int .i64 L))
    (first
      | with_reducible exact HKS.out _ Hr.out)
    (first
      | ((with_reducible refine (HRA.out _ (HK.out _ Hr.out).below).mono ?_); rintro e wn ⟨aG, bG, cG, dG, rfl, hiG, hbx⟩; have HGG := Lib.hid hiG; clear hiG; replace Hr := Lib.hid (below_of Hr.out hbx Hr.out.size); clear hbx)
      | ((with_reducible refine (HEA.out aA bA aG bG cA dA cG dG _ (HIA.out _ Hr.out).1 (HIA.out _ Hr.out).2 HGG.out.1 HGG.out.2).mono ?_); rintro e wn ⟨rfl, hbx⟩; clear HGG; replace Hr := Lib.hid (below_of Hr.out hbx Hr.out.size); clear hbx))
  have H8 := Lib.hid (HK.out _ Hr.out)
  have HIAn : Hid (∀ W', Below wn.heap.size wn W' → IntsAt W' aA SA ∧ IntsAt W' bA MA) := Lib.hid fun W' h => HIA.out W' (below_of Hr.out h Hr.out.size)
  clear HIA
  have HIA := HIAn
  clear HIAn
  have HIBn : Hid (∀ W', Below wn.heap.size wn W' → IntsAt W' aB ([] : List Int) ∧ IntsAt W' bB ([] : List Int)) := Lib.hid fun W' h => HIB.out W' (below_of Hr.out h Hr.out.size)
  clear HIB
  have HIB := HIBn
  clear HIBn
  have HICn : Hid (∀ W', Below wn.heap.size wn W' → IntsAt W' aC ([] : List Int) ∧ IntsAt W' bC ([] : List Int)) := Lib.hid fun W' h => HIC.out W' (below_of Hr.out h Hr.out.size)
  clear HIC
  have HIC := HICn
  clear HICn
  clear HK HKS Hr H7
  obtain ⟨w8, rfl⟩ : ∃ x, x = wn := ⟨_, rfl⟩
  have he0 := H8.out.cell (k := 0) (i := 0) rfl rfl
  have he1 := H8.out.cell (k := 0) (i := 1) rfl rfl
  have he2 := H8.out.cell (k := 0) (i := 2) rfl rfl
  have hc0 := H8.out.cell (k := 2) (i := 0) rfl rfl
  have hc1 := H8.out.cell (k := 2) (i := 1) rfl rfl
  have hc2 := H8.out.cell (k := 2) (i := 2) rfl rfl
  go_wp2_with fail
  refine (zero_yes aB bB cB dB w8).mono ?_
  rintro e w9 ⟨rfl, hb9⟩
  have H9 := Lib.hid (H8.out.call hb9)
  have HIAn : Hid (∀ W', Below w9.heap.size w9 W' → IntsAt W' aA SA ∧ IntsAt W' bA MA) := Lib.hid fun W' h => HIA.out W' (below_step hb9 h)
  clear HIA
  have HIA := HIAn
  clear HIAn
  have HIBn : Hid (∀ W', Below w9.heap.size w9 W' → IntsAt W' aB ([] : List Int) ∧ IntsAt W' bB ([] : List Int)) := Lib.hid fun W' h => HIB.out W' (below_step hb9 h)
  clear HIB
  have HIB := HIBn
  clear HIBn
  have HICn : Hid (∀ W', Below w9.heap.size w9 W' → IntsAt W' aC ([] : List Int) ∧ IntsAt W' bC ([] : List Int)) := Lib.hid fun W' h => HIC.out W' (below_step hb9 h)
  clear HIC
  have HIC := HICn
  clear HICn
  clear hb9 H8 hc0 hc1 hc2
  have hc0 := H9.out.cell (k := 3) (i := 0) rfl rfl
  have hc1 := H9.out.cell (k := 3) (i := 1) rfl rfl
  have hc2 := H9.out.cell (k := 3) (i := 2) rfl rfl
  go_wp2_with fail
  refine (zero_yes aC bC cC dC w9).mono ?_
  rintro e w10 ⟨rfl, hb10⟩
  have H10 := Lib.hid (H9.out.call hb10)
  have HIAn : Hid (∀ W', Below w10.heap.size w10 W' → IntsAt W' aA SA ∧ IntsAt W' bA MA) := Lib.hid fun W' h => HIA.out W' (below_step hb10 h)
  clear HIA
  have HIA := HIAn
  clear HIAn
  have HIBn : Hid (∀ W', Below w10.heap.size w10 W' → IntsAt W' aB ([] : List Int) ∧ IntsAt W' bB ([] : List Int)) := Lib.hid fun W' h => HIB.out W' (below_step hb10 h)
  clear HIB
  have HIB := HIBn
  clear HIBn
  have HICn : Hid (∀ W', Below w10.heap.size w10 W' → IntsAt W' aC ([] : List Int) ∧ IntsAt W' bC ([] : List Int)) := Lib.hid fun W' h => HIC.out W' (below_step hb10 h)
  clear HIC
  have HIC := HICn
  clear HICn
  clear hb10 H9 hc0 hc1 hc2
  go_wp2_with fail
  go_ret
  exact ⟨rfl, H10.out.below⟩
end Go.Proofs.Ytkopbcehfbmnmaa
