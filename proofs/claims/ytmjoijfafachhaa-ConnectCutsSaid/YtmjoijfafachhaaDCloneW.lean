/- diagram.Clone of a diagram with crossings: the copy is the call's own. -/
import Derived.Test.YtmjoijfafachhaaCloneB
import Derived.Deep.RegionHeld3
namespace Go.Proofs.Ytmjoijfafachhaa
open Go Go.RowKit
set_option maxRecDepth 100000 in
set_option maxHeartbeats 4000000 in
theorem dclone_own (S M : List Int) (L : Int) (aS aM : Option Addr) (cS cM : Nat) (w : World) (hS0 : 0 < S.length) (hM0 : 0 < M.length) (hSl : S.length ≤ 1000000) (hMl : M.length ≤ 1000000) (hS : IntsAt w aS S) (hM : IntsAt w aM M) :
    Calls Try.prog 59 #[.agg #[.slice aS S.length cS, .slice aM M.length cM, .int .i64 L]] w fun e w' => ∃ a b c d, e = .returned (.agg #[.slice a S.length c, .slice b M.length d, .int .i64 L]) ∧ Own w' w.heap.size 3 a c (ints S) ∧ Own w' w.heap.size 3 b d (ints M) ∧ (∀ p q, a = some p → b = some q → p.block ≠ q.block) ∧ Below w.heap.size w w' := by
  have HS := Lib.hid hS
  have HM := Lib.hid hM
  have HcS : Hid (∀ W', Below w.heap.size w W' → Calls Try.prog 73 #[.slice aS S.length cS] W' fun e w' => ∃ a' c', e = .returned (.slice a' S.length c') ∧ Own w' W'.heap.size 3 a' c' (ints S) ∧ Below W'.heap.size W' w') := Lib.hid fun W' h => sclone_own S aS cS W' hSl hS0 (hS.later h)
  have HcM : Hid (∀ W', Below w.heap.size w W' → Calls Try.prog 73 #[.slice aM M.length cM] W' fun e w' => ∃ a' c', e = .returned (.slice a' M.length c') ∧ Own w' W'.heap.size 3 a' c' (ints M) ∧ Below W'.heap.size W' w') := Lib.hid fun W' h => sclone_own M aM cM W' hMl hM0 (hM.later h)
  have H0 := Lib.hid (((HH.start w).alloc #[.slice aS S.length cS, .slice aM M.length cM, .int .i64 L] 24 rfl rfl).alloc #[.slice none 0 0, .slice none 0 0, .int .i64 0] 24 (b := w.heap.size + 1) (by simp) rfl)
  have HKS : Hid (∀ (W' : World) (l : Kn) (s : List SlO), HH w W' ((w.heap.size, rowO 24 [.slice aS S.length cS, .slice aM M.length cM, .int .i64 L]) :: l) s → W'.cell? ⟨w.heap.size, 0, none⟩ = some (.slice aS S.length cS) ∧ W'.cell? ⟨w.heap.size, 1, none⟩ = some (.slice aM M.length cM) ∧ W'.cell? ⟨w.heap.size, 2, none⟩ = some (.int .i64 L)) := Lib.hid fun W' l s h => ⟨h.cell (k := 0) (i := 0) rfl rfl, h.cell (k := 0) (i := 1) rfl rfl, h.cell (k := 0) (i := 2) rfl rfl⟩
  clear hS hM hS0 hM0 hSl hMl
  go_enter Try.func59, Try.ntmps59
  go_upto_region 1 with fail
  have Hd := Lib.hid H0.out.drew
  clear H0
  generalize ((w.alloc (.cells #[.slice aS S.length cS, .slice aM M.length cM, .int .i64 L] 24)).alloc (.cells #[.slice none 0 0, .slice none 0 0, .int .i64 0] 24)) = W at *
  have Q0 := Lib.hid (HKS.out _ _ _ Hd.out)
  have hq0 := Q0.out
  go_region_held3 (fun W' => W'.cell? ⟨w.heap.size, 0, none⟩ = some (.slice aS S.length cS) ∧ W'.cell? ⟨w.heap.size, 1, none⟩ = some (.slice aM M.length cM) ∧ W'.cell? ⟨w.heap.size, 2, none⟩ = some (.int .i64 L))
    (first
      | with_reducible exact Q0.out
      | with_reducible exact Q1.out
      | with_reducible exact Q2.out
      | with_reducible exact Q9.out)
    (first
      | ((with_reducible refine (HcS.out _ Hd.out.below).mono ?_); rintro e w1 ⟨a1, c1, rfl, ho1, hb1⟩; have H1 := Lib.hid (Hd.out.addSl hb1 ho1); have Q1 := Lib.hid (HKS.out _ _ _ H1.out); clear ho1 hb1)
      | ((with_reducible refine (HcM.out _ Hd.out.below).mono ?_); rintro e w1 ⟨a2, c2, rfl, ho1, hb1⟩; have H1 := Lib.hid (Hd.out.addSl hb1 ho1); have Q1 := Lib.hid (HKS.out _ _ _ H1.out); clear ho1 hb1)
      | ((with_reducible refine (HcM.out _ H1.out.below).mono ?_); rintro e w2 ⟨a2, c2, rfl, ho2, hb2⟩; have H2 := Lib.hid (H1.out.addSl hb2 ho2); have Q2 := Lib.hid (HKS.out _ _ _ H2.out); clear ho2 hb2; have hd0 := H2.out.cell (k := 1) (i := 0) rfl rfl; have hf0 := H2.out.frozen (k := 1) rfl 0; have hd1 := H2.out.cell (k := 1) (i := 1) rfl rfl; have hf1 := H2.out.frozen (k := 1) rfl 1; have hd2 := H2.out.cell (k := 1) (i := 2) rfl rfl; have hf2 := H2.out.frozen (k := 1) rfl 2; have H9 := Lib.hid (((H2.out.set (k := 1) rfl 0 (.slice a1 S.length c1)).set (k := 1) rfl 1 (.slice a2 M.length c2)).set (k := 1) rfl 2 (.int .i64 L)); have Q9 := Lib.hid (HKS.out _ _ _ H9.out))
      | ((with_reducible refine (HcS.out _ H1.out.below).mono ?_); rintro e w2 ⟨a1, c1, rfl, ho2, hb2⟩; have H2 := Lib.hid (H1.out.addSl hb2 ho2); have Q2 := Lib.hid (HKS.out _ _ _ H2.out); clear ho2 hb2; have hd0 := H2.out.cell (k := 1) (i := 0) rfl rfl; have hf0 := H2.out.frozen (k := 1) rfl 0; have hd1 := H2.out.cell (k := 1) (i := 1) rfl rfl; have hf1 := H2.out.frozen (k := 1) rfl 1; have hd2 := H2.out.cell (k := 1) (i := 2) rfl rfl; have hf2 := H2.out.frozen (k := 1) rfl 2; have H9 := Lib.hid (((H2.out.set (k := 1) rfl 0 (.slice a1 S.length c1)).set (k := 1) rfl 1 (.slice a2 M.length c2)).set (k := 1) rfl 2 (.int .i64 L)); have Q9 := Lib.hid (HKS.out _ _ _ H9.out)))
  all_goals
    clear hd0 hd1 hd2 hf0 hf1 hf2
    have hF0 := H9.out.cell (k := 1) (i := 0) rfl rfl
    have hF1 := H9.out.cell (k := 1) (i := 1) rfl rfl
    have hF2 := H9.out.cell (k := 1) (i := 2) rfl rfl
    go_wp2_with fail
    refine bodyPost_ret (v := .agg #[.slice a1 S.length c1, .slice a2 M.length c2, .int .i64 L]) (by simp [results, Try.results59, go_sem, hF0, hF1, hF2]) rfl ?_
    have hp := H9.out.nd2
    simp only [List.nil_append, List.cons_append, List.pairwise_cons, List.mem_cons, List.not_mem_nil, or_false, forall_eq, false_imp_iff, implies_true, List.Pairwise.nil, and_true] at hp
  · exact ⟨_, _, _, _, rfl, H9.out.sl (k := 0) rfl, H9.out.sl (k := 1) rfl, hp, H9.out.below⟩
end Go.Proofs.Ytmjoijfafachhaa
