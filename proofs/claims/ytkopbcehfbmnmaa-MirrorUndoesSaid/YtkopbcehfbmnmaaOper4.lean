/- The walk of operate of law06, ReverseOne. -/
import Derived.Test.YtkopbcehfbmnmaaOperW
namespace Go.Proofs.Ytkopbcehfbmnmaa
open Go Go.RowKit
set_option maxRecDepth 100000 in
set_option maxHeartbeats 16000000 in
theorem oper4z (S M : List Int) (L : Int) (aS aM : Option Addr) (cS cM : Nat) (k n : Nat) (w : World) (hv : vldB S M L = true) (hkd : k % 5 = 4) (hN : ((strandsL S M L).length : Int) + L = 0) (hS : IntsAt w aS S) (hM : IntsAt w aM M) :
    Calls Try.prog 69 #[.agg #[.slice aS S.length cS, .slice aM M.length cM, .int .i64 L], .int .i64 (k : Int), .int .i64 (n : Int)] w (fun e w' => e = .returned (.tuple #[.agg #[.slice aS S.length cS, .slice aM M.length cM, .int .i64 L], .bool true]) ∧ Below w.heap.size w w') := by
  have hk1 : (k : Int) % 5 = 4 := by omega
  have hk2 : (k : Int).tmod 5 = 4 := by rw [Int.tmod_eq_emod_of_nonneg (by omega)]; exact hk1
  obtain ⟨W, hW⟩ : ∃ W, W = ((w.alloc (.cells #[.slice aS S.length cS, .slice aM M.length cM, .int .i64 L] 24)).alloc (.cells #[.slice none 0 0, .slice none 0 0, .int .i64 0] 24)) := ⟨_, rfl⟩
  have h0 : HH w W [(w.heap.size, rowO 24 [.slice aS S.length cS, .slice aM M.length cM, .int .i64 L]), (w.heap.size + 1, rowO 24 [.slice none 0 0, .slice none 0 0, .int .i64 0])] [] := by rw [hW]; exact (((HH.start w).alloc #[.slice aS S.length cS, .slice aM M.length cM, .int .i64 L] 24 rfl rfl).alloc #[.slice none 0 0, .slice none 0 0, .int .i64 0] 24 (by simp) rfl)
  have H0 := Lib.hid h0
  have hS64 := (vldB_shape hv).few
  have hL0 := (vldB_shape hv).lo
  have hL1 := (vldB_shape hv).hi
  have hfw := (strandsL_lists hv).few
  have hMl : M.length ≤ 256 := by have := (vldB_shape hv).len; omega
  have H54 : Hid (∀ W', Below w.heap.size w W' → Calls Try.prog 54 #[.agg #[.slice aS S.length cS, .slice aM M.length cM, .int .i64 L]] W' fun e w' => ∃ a c, e = .returned (.slice a (strandsL S M L).length c) ∧ Below W'.heap.size W' w') := Lib.hid fun W' hW' =>
    (strands_any S M L aS aM cS cM W' (by omega) (by omega) (hS.later hW') (hM.later hW')).mono fun e w' ⟨a, c, h1, h2, _⟩ => ⟨a, c, h1, h2⟩
  have hm0 : (strandsL S M L).length = 0 := by omega
  have hL00 : L = 0 := by omega
  generalize (strandsL S M L).length = m at *
  have hw0 : IntKind.i64.wrap ((m : Int) + L) = 0 := by rw [hN]; rfl
  have hL2 : ∀ x : Int, x = L → x = L := fun x h => h
  clear hv hS hM h0 hkd hm0 hL00 hfw
  go_enter Try.func69, Try.ntmps69
  go_upto_region 1 with fail
  rw [← hW]
  clear hW
  have hc0 := H0.out.cell (k := 0) (i := 0) rfl rfl
  have hc1 := H0.out.cell (k := 0) (i := 1) rfl rfl
  have hc2 := H0.out.cell (k := 0) (i := 2) rfl rfl
  have Hd0 := Lib.hid H0.out.drew
  go_wp2_with fail
  have hc0 := Hd0.out.cell (k := 0) (i := 0) rfl rfl
  have hc1 := Hd0.out.cell (k := 0) (i := 1) rfl rfl
  have hc2 := Hd0.out.cell (k := 0) (i := 2) rfl rfl
  go_region_with ((with_reducible refine (H54.out W.drew Hd0.out.below).mono ?_); rintro e w8 ⟨aR, cR, rfl, hb8⟩; have H8 := Lib.hid (Hd0.out.call hb8); clear hb8; have he0 := H8.out.cell (k := 0) (i := 0) rfl rfl; have he1 := H8.out.cell (k := 0) (i := 1) rfl rfl; have he2 := H8.out.cell (k := 0) (i := 2) rfl rfl)
  all_goals
    have hg0 := H8.out.cell (k := 1) (i := 0) rfl rfl
    have hh0 := H8.out.frozen (k := 1) rfl 0
    have hg1 := H8.out.cell (k := 1) (i := 1) rfl rfl
    have hh1 := H8.out.frozen (k := 1) rfl 1
    have hg2 := H8.out.cell (k := 1) (i := 2) rfl rfl
    have hh2 := H8.out.frozen (k := 1) rfl 2
    have H6 : Hid (HH w (((w8.setCell ⟨w.heap.size + 1, 0, none⟩ (.slice aS S.length cS)).setCell ⟨w.heap.size + 1, 1, none⟩ (.slice aM M.length cM)).setCell ⟨w.heap.size + 1, 2, none⟩ (.int .i64 L)) [(w.heap.size, rowO 24 [.slice aS S.length cS, .slice aM M.length cM, .int .i64 L]), (w.heap.size + 1, rowO 24 [.slice aS S.length cS, .slice aM M.length cM, .int .i64 L])] []) := Lib.hid (((H8.out.set (k := 1) rfl 0 _).set (k := 1) rfl 1 _).set (k := 1) rfl 2 _)
    have hF0 := H6.out.cell (k := 1) (i := 0) rfl rfl
    have hF1 := H6.out.cell (k := 1) (i := 1) rfl rfl
    have hF2 := H6.out.cell (k := 1) (i := 2) rfl rfl
    go_wp2_with fail
    refine bodyPost_ret (v := .tuple #[.agg #[.slice aS S.length cS, .slice aM M.length cM, .int .i64 L], .bool true]) (by simp [results, Try.results69, go_sem, hF0, hF1, hF2]) rfl ?_
    exact ⟨rfl, H6.out.below⟩
set_option maxRecDepth 100000 in
set_option maxHeartbeats 16000000 in
theorem oper4y (S M : List Int) (L : Int) (aS aM : Option Addr) (cS cM : Nat) (k n N : Nat) (w : World) (hv : vldB S M L = true) (hkd : k % 5 = 4) (hN : ((strandsL S M L).length : Int) + L = (N : Int)) (hN0 : 0 < N) (hn : n ≤ 255) (hS : IntsAt w aS S) (hM : IntsAt w aM M) :
    Calls Try.prog 69 #[.agg #[.slice aS S.length cS, .slice aM M.length cM, .int .i64 L], .int .i64 (k : Int), .int .i64 (n : Int)] w (OpR w S M (mulS S (r1S S M (n % N))) (mvL (trn (r1B S M (n % N))) M) L) := by
  have hk1 : (k : Int) % 5 = 4 := by omega
  have hk2 : (k : Int).tmod 5 = 4 := by rw [Int.tmod_eq_emod_of_nonneg (by omega)]; exact hk1
  obtain ⟨W, hW⟩ : ∃ W, W = ((w.alloc (.cells #[.slice aS S.length cS, .slice aM M.length cM, .int .i64 L] 24)).alloc (.cells #[.slice none 0 0, .slice none 0 0, .int .i64 0] 24)) := ⟨_, rfl⟩
  have h0 : HH w W [(w.heap.size, rowO 24 [.slice aS S.length cS, .slice aM M.length cM, .int .i64 L]), (w.heap.size + 1, rowO 24 [.slice none 0 0, .slice none 0 0, .int .i64 0])] [] := by rw [hW]; exact (((HH.start w).alloc #[.slice aS S.length cS, .slice aM M.length cM, .int .i64 L] 24 rfl rfl).alloc #[.slice none 0 0, .slice none 0 0, .int .i64 0] 24 (by simp) rfl)
  have H0 := Lib.hid h0
  have hS64 := (vldB_shape hv).few
  have hL0 := (vldB_shape hv).lo
  have hL1 := (vldB_shape hv).hi
  have hfw := (strandsL_lists hv).few
  have hMl : M.length ≤ 256 := by have := (vldB_shape hv).len; omega
  have H54 : Hid (∀ W', Below w.heap.size w W' → Calls Try.prog 54 #[.agg #[.slice aS S.length cS, .slice aM M.length cM, .int .i64 L]] W' fun e w' => ∃ a c, e = .returned (.slice a (strandsL S M L).length c) ∧ Below W'.heap.size W' w') := Lib.hid fun W' hW' =>
    (strands_any S M L aS aM cS cM W' (by omega) (by omega) (hS.later hW') (hM.later hW')).mono fun e w' ⟨a, c, h1, h2, _⟩ => ⟨a, c, h1, h2⟩
  have HC : Hid (∀ W', Below w.heap.size w W' → Calls Try.prog 56 #[.agg #[.slice aS S.length cS, .slice aM M.length cM, .int .i64 L], .int .i64 ((n % N : Nat) : Int)] W' fun e w' => ∃ bS bM : Nat, e = .returned (.tuple #[.agg #[.slice (some ⟨bS, 0, none⟩) S.length S.length, .slice (some ⟨bM, 0, none⟩) M.length M.length, .int .i64 L], .int .i64 0]) ∧ Row w' bS 3 (ints (mulS S (r1S S M (n % N)))) ∧ Row w' bM 3 (ints (mvL (trn (r1B S M (n % N))) M)) ∧ Below W'.heap.size W' w') :=
    Lib.hid fun W' hW' => rone_row S M L aS aM cS cM (n % N) W' hv (by have := Nat.mod_lt n hN0; omega) (hS.later hW') (hM.later hW')
  have hNl : N ≤ 400 := by omega
  generalize (strandsL S M L).length = m at *
  have hw0 : IntKind.i64.wrap ((m : Int) + L) = (N : Int) := by rw [hN, IntKind.wrap_i64]; omega
  have hmd2 : (n : Int) % (N : Int) = ((n % N : Nat) : Int) := by push_cast; rfl
  have hmd1 : (n : Int).tmod (N : Int) = ((n % N : Nat) : Int) := by
    rw [← hmd2]; exact Int.tmod_eq_emod_of_nonneg (by omega)
  have hn0 : ¬ N = 0 := by omega
  have hn1 : decide (N = 0) = false := decide_eq_false hn0
  have hn2 : ((N : Int) == 0) = false := by rw [beq_eq_false_iff_ne]; omega
  have hn3 : decide ((0 : Int) < (N : Int)) = true := decide_eq_true (by omega)
  generalize (((n % N : Nat)) : Int) = md at *
  clear hv hS hM h0 hkd hfw
  go_enter Try.func69, Try.ntmps69
  go_upto_region 1 with fail
  rw [← hW]
  clear hW
  have hc0 := H0.out.cell (k := 0) (i := 0) rfl rfl
  have hc1 := H0.out.cell (k := 0) (i := 1) rfl rfl
  have hc2 := H0.out.cell (k := 0) (i := 2) rfl rfl
  have Hd0 := Lib.hid H0.out.drew
  go_wp2_with fail
  have hc0 := Hd0.out.cell (k := 0) (i := 0) rfl rfl
  have hc1 := Hd0.out.cell (k := 0) (i := 1) rfl rfl
  have hc2 := Hd0.out.cell (k := 0) (i := 2) rfl rfl
  go_region_with ((with_reducible refine (H54.out W.drew Hd0.out.below).mono ?_); rintro e w8 ⟨aR, cR, rfl, hb8⟩; have H8 := Lib.hid (Hd0.out.call hb8); clear hb8; have he0 := H8.out.cell (k := 0) (i := 0) rfl rfl; have he1 := H8.out.cell (k := 0) (i := 1) rfl rfl; have he2 := H8.out.cell (k := 0) (i := 2) rfl rfl)
  all_goals
    have Hd8 := Lib.hid H8.out.drew
    go_wp2_with fail
    clear hc0 hc1 hc2
    have hc0 := Hd8.out.cell (k := 0) (i := 0) rfl rfl
    have hc1 := Hd8.out.cell (k := 0) (i := 1) rfl rfl
    have hc2 := Hd8.out.cell (k := 0) (i := 2) rfl rfl
    clear he0 he1 he2
    go_region_with ((with_reducible refine (HC.out w8.drew Hd8.out.below).mono ?_); rintro e w1 ⟨bS, bM, rfl, hi1, hj1, hb1⟩; have H1 := Lib.hid (Hd8.out.call hb1); have HI1 := Lib.hid (And.intro hi1 hj1); clear hb1 hi1 hj1 hc0 hc1 hc2; have hd0 := H1.out.cell (k := 0) (i := 0) rfl rfl; have hf0 := H1.out.frozen (k := 0) rfl 0; have hd1 := H1.out.cell (k := 0) (i := 1) rfl rfl; have hf1 := H1.out.frozen (k := 0) rfl 1; have hd2 := H1.out.cell (k := 0) (i := 2) rfl rfl; have hf2 := H1.out.frozen (k := 0) rfl 2; have H5 : Hid (HH w (((w1.setCell ⟨w.heap.size, 0, none⟩ (.slice (some ⟨bS, 0, none⟩) S.length S.length)).setCell ⟨w.heap.size, 1, none⟩ (.slice (some ⟨bM, 0, none⟩) M.length M.length)).setCell ⟨w.heap.size, 2, none⟩ (.int .i64 L)) [(w.heap.size, rowO 24 [.slice (some ⟨bS, 0, none⟩) S.length S.length, .slice (some ⟨bM, 0, none⟩) M.length M.length, .int .i64 L]), (w.heap.size + 1, rowO 24 [.slice none 0 0, .slice none 0 0, .int .i64 0])] []) := Lib.hid (((H1.out.set (k := 0) rfl 0 _).set (k := 0) rfl 1 _).set (k := 0) rfl 2 _); have he0 := H5.out.cell (k := 0) (i := 0) rfl rfl; have hg0 := H5.out.cell (k := 1) (i := 0) rfl rfl; have hh0 := H5.out.frozen (k := 1) rfl 0; have he1 := H5.out.cell (k := 0) (i := 1) rfl rfl; have hg1 := H5.out.cell (k := 1) (i := 1) rfl rfl; have hh1 := H5.out.frozen (k := 1) rfl 1; have he2 := H5.out.cell (k := 0) (i := 2) rfl rfl; have hg2 := H5.out.cell (k := 1) (i := 2) rfl rfl; have hh2 := H5.out.frozen (k := 1) rfl 2; have H6 : Hid (HH w ((((((w1.setCell ⟨w.heap.size, 0, none⟩ (.slice (some ⟨bS, 0, none⟩) S.length S.length)).setCell ⟨w.heap.size, 1, none⟩ (.slice (some ⟨bM, 0, none⟩) M.length M.length)).setCell ⟨w.heap.size, 2, none⟩ (.int .i64 L)).setCell ⟨w.heap.size + 1, 0, none⟩ (.slice (some ⟨bS, 0, none⟩) S.length S.length)).setCell ⟨w.heap.size + 1, 1, none⟩ (.slice (some ⟨bM, 0, none⟩) M.length M.length)).setCell ⟨w.heap.size + 1, 2, none⟩ (.int .i64 L)) [(w.heap.size, rowO 24 [.slice (some ⟨bS, 0, none⟩) S.length S.length, .slice (some ⟨bM, 0, none⟩) M.length M.length, .int .i64 L]), (w.heap.size + 1, rowO 24 [.slice (some ⟨bS, 0, none⟩) S.length S.length, .slice (some ⟨bM, 0, none⟩) M.length M.length, .int .i64 L])] []) := Lib.hid (((H5.out.set (k := 1) rfl 0 _).set (k := 1) rfl 1 _).set (k := 1) rfl 2 _); have hF0 := H6.out.cell (k := 1) (i := 0) rfl rfl; have hF1 := H6.out.cell (k := 1) (i := 1) rfl rfl; have hF2 := H6.out.cell (k := 1) (i := 2) rfl rfl; have HR := Lib.hid (And.intro (((show RowAt w1 (some ⟨bS, 0, none⟩) _ from .inr ⟨bS, rfl, HI1.out.1⟩).box (H1.out.row (k := 0) rfl) (.slice (some ⟨bS, 0, none⟩) S.length S.length) (.slice (some ⟨bM, 0, none⟩) M.length M.length) (.int .i64 L)).box (H5.out.row (k := 1) rfl) (.slice (some ⟨bS, 0, none⟩) S.length S.length) (.slice (some ⟨bM, 0, none⟩) M.length M.length) (.int .i64 L)) (((show RowAt w1 (some ⟨bM, 0, none⟩) _ from .inr ⟨bM, rfl, HI1.out.2⟩).box (H1.out.row (k := 0) rfl) (.slice (some ⟨bS, 0, none⟩) S.length S.length) (.slice (some ⟨bM, 0, none⟩) M.length M.length) (.int .i64 L)).box (H5.out.row (k := 1) rfl) (.slice (some ⟨bS, 0, none⟩) S.length S.length) (.slice (some ⟨bM, 0, none⟩) M.length M.length) (.int .i64 L))))
    all_goals
      go_wp2_with fail
      refine bodyPost_ret (v := .tuple #[.agg #[.slice (some ⟨bS, 0, none⟩) S.length S.length, .slice (some ⟨bM, 0, none⟩) M.length M.length, .int .i64 L], .bool true]) (by simp [results, Try.results69, go_sem, hF0, hF1, hF2]) rfl ?_
      exact ⟨_, _, _, _, rfl, HR.out.1, HR.out.2, H6.out.below⟩
end Go.Proofs.Ytkopbcehfbmnmaa
