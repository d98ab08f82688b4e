/- The walk of mirror.Switch. -/
import Derived.Test.YtkopbcehfbmnmaaMirW
namespace Go.Proofs.Ytkopbcehfbmnmaa
open Go Go.RowKit
set_option maxRecDepth 100000 in
theorem isk_any (W : World) (b c : Nat) (k : Int) (h : Row W b 3 [.int .i64 k]) :
    Calls Try.prog 120 #[.int .i64 (c : Int), .pointer (some ⟨b, 0, none⟩)] W fun e w' => e = .returned (.bool ((c : Int) == k)) ∧ W = w' := by
  have hc := h.cell 0
  simp only [List.getElem?_cons_zero] at hc
  clear h
  go_enter Try.func120, Try.ntmps120
  go_wp2_with fail
  go_ret
  exact ⟨rfl, rfl⟩
set_option maxRecDepth 100000 in
set_option maxHeartbeats 4000000 in
theorem switch_no (S M : List Int) (L : Int) (aS aM : Option Addr) (cS cM : Nat) (k : Int) (w : World) (hSl : S.length ≤ 1000000000) (hMl : M.length ≤ 1000000000) (hv : vldB S M L = false) (hS : IntsAt w aS S) (hM : IntsAt w aM M) :
    Calls Try.prog 52 #[.agg #[.slice aS S.length cS, .slice aM M.length cM, .int .i64 L], .int .i64 k] w (DgR w [] [] 0 1) := by
  obtain ⟨W, hW⟩ : ∃ W, W = ((w.alloc (.cells #[.slice aS S.length cS, .slice aM M.length cM, .int .i64 L] 24)).alloc (.cells #[.int .i64 k] 3)).alloc (.cells #[.slice none 0 0, .slice none 0 0, .int .i64 0] 24) := ⟨_, rfl⟩
  have hz : W.heap.size = w.heap.size + 3 := by rw [hW]; simp
  obtain ⟨r0, r1, r2⟩ := alloc3_rows w #[.slice aS S.length cS, .slice aM M.length cM, .int .i64 L] #[.int .i64 k] #[.slice none 0 0, .slice none 0 0, .int .i64 0] 24 3 24
  rw [← hW] at r0 r1 r2
  have hB : Below w.heap.size w W := by rw [hW]; exact (((Below.refl _ _).alloc (Nat.le_refl _) _).alloc (by simp) _).alloc (by simp; omega) _
  have HV : Hid (Calls Try.prog 39 #[.agg #[.slice aS S.length cS, .slice aM M.length cM, .int .i64 L]] W fun e w' => e = .returned (.bool false) ∧ Below W.heap.size W w') := Lib.hid (by
    rw [← hv]; exact valid_any S M L aS aM cS cM W (by omega) (by omega) (hS.later hB) (hM.later hB))
  have Hr2 := Lib.hid r2
  have HB := Lib.hid hB
  clear hv hS hM r0 r1 r2 hB hz
  go_enter Try.func52, Try.ntmps52
  go_wp2_with fail
  rw [← hW]
  refine HV.out.mono ?_
  rintro e w1 ⟨rfl, hb1⟩
  have Hb1 := Lib.hid hb1
  clear hb1 hW HV
  have hR := Hr2.out.later Hb1.out Hr2.out.lt
  have Hfin : Hid (Below w.heap.size w (((w1.setCell ⟨w.heap.size + 1 + 1, 0, none⟩ (.slice none 0 0)).setCell ⟨w.heap.size + 1 + 1, 1, none⟩ (.slice none 0 0)).setCell ⟨w.heap.size + 1 + 1, 2, none⟩ (.int .i64 0))) := Lib.hid ((((below_of HB.out Hb1.out HB.out.size).setCell (by simp; omega) _).setCell (by simp; omega) _).setCell (by simp; omega) _)
  have hRf := res_set hR (.slice none 0 0) (.slice none 0 0) (.int .i64 0)
  have hF0 := hRf.cell 0
  have hF1 := hRf.cell 1
  have hF2 := hRf.cell 2
  have hd0 := hR.cell 0
  have hd1 := hR.cell 1
  have hd2 := hR.cell 2
  have hf0 := hR.frozen 0
  have hf1 := hR.frozen 1
  have hf2 := hR.frozen 2
  simp only [List.getElem?_cons_succ, List.getElem?_cons_zero] at hF0 hF1 hF2 hd0 hd1 hd2
  clear hR hRf
  go_wp2_with fail
  refine bodyPost_ret (v := .tuple #[.agg #[.slice none 0 0, .slice none 0 0, .int .i64 0], .int .i64 1]) (by simp [results, Try.results52, go_sem, hF0, hF1, hF2]) rfl ?_
  exact ⟨none, none, 0, 0, rfl, IntsAt.nil _ _, IntsAt.nil _ _, Hfin.out⟩
set_option maxRecDepth 100000 in
set_option maxHeartbeats 4000000 in
theorem switch_out (S M : List Int) (L : Int) (aS aM : Option Addr) (cS cM : Nat) (k : Int) (w : World) (hv : vldB S M L = true) (hk : k < 0 ∨ (S.length : Int) ≤ k) (hS : IntsAt w aS S) (hM : IntsAt w aM M) :
    Calls Try.prog 52 #[.agg #[.slice aS S.length cS, .slice aM M.length cM, .int .i64 L], .int .i64 k] w (DgR w [] [] 0 2) := by
  have hSl := (vldB_shape hv).few
  have hMl : M.length ≤ 256 := by have := (vldB_shape hv).len; omega
  obtain ⟨W, hW⟩ : ∃ W, W = ((w.alloc (.cells #[.slice aS S.length cS, .slice aM M.length cM, .int .i64 L] 24)).alloc (.cells #[.int .i64 k] 3)).alloc (.cells #[.slice none 0 0, .slice none 0 0, .int .i64 0] 24) := ⟨_, rfl⟩
  have hz : W.heap.size = w.heap.size + 3 := by rw [hW]; simp
  obtain ⟨r0, r1, r2⟩ := alloc3_rows w #[.slice aS S.length cS, .slice aM M.length cM, .int .i64 L] #[.int .i64 k] #[.slice none 0 0, .slice none 0 0, .int .i64 0] 24 3 24
  rw [← hW] at r0 r1 r2
  have hB : Below w.heap.size w W := by rw [hW]; exact (((Below.refl _ _).alloc (Nat.le_refl _) _).alloc (by simp) _).alloc (by simp; omega) _
  have HV : Hid (Calls Try.prog 39 #[.agg #[.slice aS S.length cS, .slice aM M.length cM, .int .i64 L]] W fun e w' => e = .returned (.bool true) ∧ Below W.heap.size W w') := Lib.hid (by
    rw [← hv]; exact valid_any S M L aS aM cS cM W (by omega) (by omega) (hS.later hB) (hM.later hB))
  have Hr0 := Lib.hid r0
  have Hr1 := Lib.hid r1
  have Hr2 := Lib.hid r2
  have HB := Lib.hid hB
  clear hv hS hM r0 r1 r2 hB hz
  go_enter Try.func52, Try.ntmps52
  go_wp2_with fail
  rw [← hW]
  refine HV.out.mono ?_
  rintro e w1 ⟨rfl, hb1⟩
  have Hb1 := Lib.hid hb1
  clear hb1 hW HV
  have hr := Hr0.out.later Hb1.out Hr0.out.lt
  have hc0 := hr.cell 0
  have hc1 := hr.cell 1
  have hc2 := hr.cell 2
  have hkc := (Hr1.out.later Hb1.out Hr1.out.lt).cell 0
  simp only [List.getElem?_cons_succ, List.getElem?_cons_zero] at hc0 hc1 hc2 hkc
  clear hr
  by_cases h1 : k < 0
  · have d1 : decide (k < 0) = true := decide_eq_true h1
    clear hk h1
    have hR := Hr2.out.later Hb1.out Hr2.out.lt
    have Hfin : Hid (Below w.heap.size w (((w1.setCell ⟨w.heap.size + 1 + 1, 0, none⟩ (.slice none 0 0)).setCell ⟨w.heap.size + 1 + 1, 1, none⟩ (.slice none 0 0)).setCell ⟨w.heap.size + 1 + 1, 2, none⟩ (.int .i64 0))) := Lib.hid ((((below_of HB.out Hb1.out HB.out.size).setCell (by simp; omega) _).setCell (by simp; omega) _).setCell (by simp; omega) _)
    have hRf := res_set hR (.slice none 0 0) (.slice none 0 0) (.int .i64 0)
    have hF0 := hRf.cell 0
    have hF1 := hRf.cell 1
    have hF2 := hRf.cell 2
    have hd0 := hR.cell 0
    have hd1 := hR.cell 1
    have hd2 := hR.cell 2
    have hf0 := hR.frozen 0
    have hf1 := hR.frozen 1
    have hf2 := hR.frozen 2
    simp only [List.getElem?_cons_succ, List.getElem?_cons_zero] at hF0 hF1 hF2 hd0 hd1 hd2
    clear hR hRf
    go_wp2_with fail
    refine bodyPost_ret (v := .tuple #[.agg #[.slice none 0 0, .slice none 0 0, .int .i64 0], .int .i64 2]) (by simp [results, Try.results52, go_sem, hF0, hF1, hF2]) rfl ?_
    exact ⟨none, none, 0, 0, rfl, IntsAt.nil _ _, IntsAt.nil _ _, Hfin.out⟩
  · have d1 : decide (k < 0) = false := decide_eq_false h1
    have d2 : decide ((S.length : Int) ≤ k) = true := decide_eq_true (by omega)
    clear hk h1
    have hR := Hr2.out.later Hb1.out Hr2.out.lt
    have Hfin : Hid (Below w.heap.size w (((w1.setCell ⟨w.heap.size + 1 + 1, 0, none⟩ (.slice none 0 0)).setCell ⟨w.heap.size + 1 + 1, 1, none⟩ (.slice none 0 0)).setCell ⟨w.heap.size + 1 + 1, 2, none⟩ (.int .i64 0))) := Lib.hid ((((below_of HB.out Hb1.out HB.out.size).setCell (by simp; omega) _).setCell (by simp; omega) _).setCell (by simp; omega) _)
    have hRf := res_set hR (.slice none 0 0) (.slice none 0 0) (.int .i64 0)
    have hF0 := hRf.cell 0
    have hF1 := hRf.cell 1
    have hF2 := hRf.cell 2
    have hd0 := hR.cell 0
    have hd1 := hR.cell 1
    have hd2 := hR.cell 2
    have hf0 := hR.frozen 0
    have hf1 := hR.frozen 1
    have hf2 := hR.frozen 2
    simp only [List.getElem?_cons_succ, List.getElem?_cons_zero] at hF0 hF1 hF2 hd0 hd1 hd2
    clear hR hRf
    go_wp2_with fail
    refine bodyPost_ret (v := .tuple #[.agg #[.slice none 0 0, .slice none 0 0, .int .i64 0], .int .i64 2]) (by simp [results, Try.results52, go_sem, hF0, hF1, hF2]) rfl ?_
    exact ⟨none, none, 0, 0, rfl, IntsAt.nil _ _, IntsAt.nil _ _, Hfin.out⟩
set_option maxRecDepth 100000 in
set_option maxHeartbeats 4000000 in
theorem switch_row (S M : List Int) (L : Int) (aS aM : Option Addr) (cS cM k : Nat) (w : World) (hv : vldB S M L = true) (hk : k < S.length) (hS : IntsAt w aS S) (hM : IntsAt w aM M) :
    Calls Try.prog 52 #[.agg #[.slice aS S.length cS, .slice aM M.length cM, .int .i64 L], .int .i64 (k : Int)] w fun e w' => ∃ bS bM : Nat, e = .returned (.tuple #[.agg #[.slice (some ⟨bS, 0, none⟩) S.length S.length, .slice (some ⟨bM, 0, none⟩) M.length M.length, .int .i64 L], .int .i64 0]) ∧ Row w' bS 3 (ints (mulS S (swS fun c => decide (c = k)))) ∧ Row w' bM 3 (ints (mvL (trn (swB S fun c => decide (c = k))) M)) ∧ Below w.heap.size w w' := by
  have hSl := (vldB_shape hv).few
  have hMl : M.length ≤ 256 := by have := (vldB_shape hv).len; omega
  obtain ⟨W, hW⟩ : ∃ W, W = ((w.alloc (.cells #[.slice aS S.length cS, .slice aM M.length cM, .int .i64 L] 24)).alloc (.cells #[.int .i64 (k : Int)] 3)).alloc (.cells #[.slice none 0 0, .slice none 0 0, .int .i64 0] 24) := ⟨_, rfl⟩
  have hz : W.heap.size = w.heap.size + 3 := by rw [hW]; simp
  obtain ⟨r0, r1, r2⟩ := alloc3_rows w #[.slice aS S.length cS, .slice aM M.length cM, .int .i64 L] #[.int .i64 (k : Int)] #[.slice none 0 0, .slice none 0 0, .int .i64 0] 24 3 24
  rw [← hW] at r0 r1 r2
  have hB : Below w.heap.size w W := by rw [hW]; exact (((Below.refl _ _).alloc (Nat.le_refl _) _).alloc (by simp) _).alloc (by simp; omega) _
  have HV : Hid (Calls Try.prog 39 #[.agg #[.slice aS S.length cS, .slice aM M.length cM, .int .i64 L]] W fun e w' => e = .returned (.bool true) ∧ Below W.heap.size W w') := Lib.hid (by
    rw [← hv]; exact valid_any S M L aS aM cS cM W (by omega) (by omega) (hS.later hB) (hM.later hB))
  have HI : Hid (∀ W1, Below W.heap.size W W1 → Calls Try.prog 110 #[.agg #[.slice aS S.length cS, .slice aM M.length cM, .int .i64 L], .func (.func 120) #[] #[.pointer (some ⟨w.heap.size + 1, 0, none⟩)]] W1 fun e w' => ∃ bS bM, e = .returned (.agg #[.slice (some ⟨bS, 0, none⟩) S.length S.length, .slice (some ⟨bM, 0, none⟩) M.length M.length, .int .i64 L]) ∧ Row w' bS 3 (ints (mulS S (swS fun c => decide (c = k)))) ∧ Row w' bM 3 (ints (mvL (trn (swB S fun c => decide (c = k))) M)) ∧ Below W1.heap.size W1 w') := Lib.hid fun W1 h1 =>
    exchange_any S M L aS aM cS cM W1 120 #[.pointer (some ⟨w.heap.size + 1, 0, none⟩)] (fun c => decide (c = k)) Try.call120 hv (fun W' c hW' _ => by
      refine (isk_any W' (w.heap.size + 1) c k (r1.later (below_step h1 hW') (by omega))).mono ?_
      rintro e w' ⟨he, hw⟩
      refine ⟨?_, hw⟩
      rw [he]
      congr 2
      show ((c : Int) == (k : Int)) = decide (c = k)
      by_cases g : c = k
      · rw [g]; simp
      · rw [decide_eq_false g, beq_eq_false_iff_ne]; omega) (hS.later (below_of hB h1 hB.size)) (hM.later (below_of hB h1 hB.size))
  have Hr0 := Lib.hid r0
  have Hr1 := Lib.hid r1
  have Hr2 := Lib.hid r2
  have HB := Lib.hid hB
  have Hz := Lib.hid hz
  clear hv hS hM r0 r1 r2 hB hz
  go_enter Try.func52, Try.ntmps52
  go_wp2_with fail
  rw [← hW]
  refine HV.out.mono ?_
  rintro e w1 ⟨rfl, hb1⟩
  have Hb1 := Lib.hid hb1
  clear hb1 hW HV
  have hr := Hr0.out.later Hb1.out Hr0.out.lt
  have hc0 := hr.cell 0
  have hc1 := hr.cell 1
  have hc2 := hr.cell 2
  have hkc := (Hr1.out.later Hb1.out Hr1.out.lt).cell 0
  simp only [List.getElem?_cons_succ, List.getElem?_cons_zero] at hc0 hc1 hc2 hkc
  clear hr
  have d1 : decide ((k : Int) < 0) = false := decide_eq_false (by omega)
  have d2 : decide (S.length ≤ k) = false := decide_eq_false (by omega)
  clear hk
  go_wp2_with fail
  refine (HI.out w1 Hb1.out).mono ?_
  rintro e w2 ⟨bS, bM, rfl, hS2, hM2, hb2⟩
  have hbb := below_step Hb1.out hb2
  have hR := Hr2.out.later hbb (by have := Hz.out; omega)
  have Hfin : Hid (Row (((w2.setCell ⟨w.heap.size + 1 + 1, 0, none⟩ (.slice (some ⟨bS, 0, none⟩) S.length S.length)).setCell ⟨w.heap.size + 1 + 1, 1, none⟩ (.slice (some ⟨bM, 0, none⟩) M.length M.length)).setCell ⟨w.heap.size + 1 + 1, 2, none⟩ (.int .i64 L)) bS 3 (ints (mulS S (swS fun c => decide (c = k)))) ∧ Row (((w2.setCell ⟨w.heap.size + 1 + 1, 0, none⟩ (.slice (some ⟨bS, 0, none⟩) S.length S.length)).setCell ⟨w.heap.size + 1 + 1, 1, none⟩ (.slice (some ⟨bM, 0, none⟩) M.length M.length)).setCell ⟨w.heap.size + 1 + 1, 2, none⟩ (.int .i64 L)) bM 3 (ints (mvL (trn (swB S fun c => decide (c = k))) M)) ∧ Below w.heap.size w (((w2.setCell ⟨w.heap.size + 1 + 1, 0, none⟩ (.slice (some ⟨bS, 0, none⟩) S.length S.length)).setCell ⟨w.heap.size + 1 + 1, 1, none⟩ (.slice (some ⟨bM, 0, none⟩) M.length M.length)).setCell ⟨w.heap.size + 1 + 1, 2, none⟩ (.int .i64 L))) := Lib.hid (by
    have n1 : bS ≠ w.heap.size + 1 + 1 := fun e => by
      have h := hS2
      rw [e] at h
      unfold Row at h hR
      rw [hR] at h
      simp at h
    have n2 : bM ≠ w.heap.size + 1 + 1 := fun e => by
      have h := hM2
      rw [e] at h
      unfold Row at h hR
      rw [hR] at h
      simp at h
    have hb3 := below_of HB.out hbb HB.out.size
    exact ⟨((hS2.setOther _ _ n1).setOther _ _ n1).setOther _ _ n1, ((hM2.setOther _ _ n2).setOther _ _ n2).setOther _ _ n2, ((hb3.setCell (by simp; omega) _).setCell (by simp; omega) _).setCell (by simp; omega) _⟩)
  have hRf := res_set hR (.slice (some ⟨bS, 0, none⟩) S.length S.length) (.slice (some ⟨bM, 0, none⟩) M.length M.length) (.int .i64 L)
  have hF0 := hRf.cell 0
  have hF1 := hRf.cell 1
  have hF2 := hRf.cell 2
  have hd0 := hR.cell 0
  have hd1 := hR.cell 1
  have hd2 := hR.cell 2
  have hf0 := hR.frozen 0
  have hf1 := hR.frozen 1
  have hf2 := hR.frozen 2
  simp only [List.getElem?_cons_succ, List.getElem?_cons_zero] at hF0 hF1 hF2 hd0 hd1 hd2
  clear hS2 hM2 hb2 hbb hRf hR HI hc0 hc1 hc2
  go_wp2_with fail
  refine bodyPost_ret (v := .tuple #[.agg #[.slice (some ⟨bS, 0, none⟩) S.length S.length, .slice (some ⟨bM, 0, none⟩) M.length M.length, .int .i64 L], .int .i64 0]) (by simp [results, Try.results52, go_sem, hF0, hF1, hF2]) rfl ?_
  exact ⟨bS, bM, rfl, Hfin.out.1, Hfin.out.2.1, Hfin.out.2.2⟩
theorem switch_yes (S M : List Int) (L : Int) (aS aM : Option Addr) (cS cM k : Nat) (w : World) (hv : vldB S M L = true) (hk : k < S.length) (hS : IntsAt w aS S) (hM : IntsAt w aM M) :
    Calls Try.prog 52 #[.agg #[.slice aS S.length cS, .slice aM M.length cM, .int .i64 L], .int .i64 (k : Int)] w (DgR w (mulS S (swS fun c => decide (c = k))) (mvL (trn (swB S fun c => decide (c = k))) M) L 0) := by
  refine (switch_row S M L aS aM cS cM k w hv hk hS hM).mono ?_
  rintro e w' ⟨bS, bM, rfl, h1, h2, h3⟩
  exact ⟨some ⟨bS, 0, none⟩, some ⟨bM, 0, none⟩, S.length, M.length, by rw [mulS_len, mvL_len], h1.at, h2.at, h3⟩
end Go.Proofs.Ytkopbcehfbmnmaa
