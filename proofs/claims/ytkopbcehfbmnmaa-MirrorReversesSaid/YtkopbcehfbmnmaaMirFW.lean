/- The walks of mirror.Mirror, Reflect, Reverse. -/
import Derived.Test.YtkopbcehfbmnmaaMirW
namespace Go.Proofs.Ytkopbcehfbmnmaa
open Go Go.RowKit
set_option maxRecDepth 100000 in
theorem yes_any (W : World) (c : Nat) :
    Calls Try.prog 111 #[.int .i64 (c : Int)] W fun e w' => e = .returned (.bool true) ∧ W = w' := by
  go_enter Try.func111, Try.ntmps111
  go_wp2_with fail
  go_ret
  exact ⟨rfl, rfl⟩
set_option maxRecDepth 100000 in
theorem rfl1_any (W : World) (c x : Nat) (hx : x < 4) :
    Calls Try.prog 112 #[.int .i64 (c : Int), .int .i64 (x : Int)] W fun e w' => e = .returned (.int .i64 (4 - 2 * (x : Int))) ∧ W = w' := by
  go_enter Try.func112, Try.ntmps112
  go_wp2_with fail
  go_ret
  exact ⟨rfl, rfl⟩
set_option maxRecDepth 100000 in
theorem rfl2_any (W : World) (c : Nat) :
    Calls Try.prog 114 #[.int .i64 (c : Int)] W fun e w' => e = .returned (.int .i64 (-1)) ∧ W = w' := by
  go_enter Try.func114, Try.ntmps114
  go_wp2_with fail
  go_ret
  exact ⟨rfl, rfl⟩
set_option maxRecDepth 100000 in
theorem rev1_any (W : World) (c x : Nat) :
    Calls Try.prog 115 #[.int .i64 (c : Int), .int .i64 (x : Int)] W fun e w' => e = .returned (.int .i64 2) ∧ W = w' := by
  go_enter Try.func115, Try.ntmps115
  go_wp2_with fail
  go_ret
  exact ⟨rfl, rfl⟩
set_option maxRecDepth 100000 in
theorem rev2_any (W : World) (c : Nat) :
    Calls Try.prog 116 #[.int .i64 (c : Int)] W fun e w' => e = .returned (.int .i64 1) ∧ W = w' := by
  go_enter Try.func116, Try.ntmps116
  go_wp2_with fail
  go_ret
  exact ⟨rfl, rfl⟩
set_option maxRecDepth 100000 in
set_option maxHeartbeats 4000000 in
theorem mirrorF_row (S M : List Int) (L : Int) (aS aM : Option Addr) (cS cM : Nat) (w : World) (hv : vldB S M L = true) (hS : IntsAt w aS S) (hM : IntsAt w aM M) :
    Calls Try.prog 43 #[.agg #[.slice aS S.length cS, .slice aM M.length cM, .int .i64 L]] w fun e w' => ∃ bS bM : Nat, e = .returned (.tuple #[.agg #[.slice (some ⟨bS, 0, none⟩) S.length S.length, .slice (some ⟨bM, 0, none⟩) M.length M.length, .int .i64 L], .int .i64 0]) ∧ Row w' bS 3 (ints (mulS S (swS fun _ => true))) ∧ Row w' bM 3 (ints (mvL (trn (swB S fun _ => true)) M)) ∧ Below w.heap.size w w' := by
  have hs := vldB_shape hv
  have hSl := hs.few
  have hMl : M.length ≤ 256 := by have := hs.len; omega
  obtain ⟨W, hW⟩ : ∃ W, W = (w.alloc (.cells #[.slice aS S.length cS, .slice aM M.length cM, .int .i64 L] 24)).alloc (.cells #[.slice none 0 0, .slice none 0 0, .int .i64 0] 24) := ⟨_, rfl⟩
  have hz : W.heap.size = w.heap.size + 2 := by rw [hW]; simp
  have r0 : Row W w.heap.size 24 [.slice aS S.length cS, .slice aM M.length cM, .int .i64 L] := by rw [hW]; exact (Row.new w #[.slice aS S.length cS, .slice aM M.length cM, .int .i64 L] 24).alloc _
  have r1 : Row W (w.heap.size + 1) 24 [.slice none 0 0, .slice none 0 0, .int .i64 0] := by
    rw [hW]
    have := Row.new (w.alloc (.cells #[.slice aS S.length cS, .slice aM M.length cM, .int .i64 L] 24)) #[.slice none 0 0, .slice none 0 0, .int .i64 0] 24
    simpa using this
  have hB : Below w.heap.size w W := by rw [hW]; exact ((Below.refl _ _).alloc (Nat.le_refl _) _).alloc (by simp) _
  have HV : Hid (Calls Try.prog 39 #[.agg #[.slice aS S.length cS, .slice aM M.length cM, .int .i64 L]] W fun e w' => e = .returned (.bool true) ∧ Below W.heap.size W w') := Lib.hid (by
    rw [← hv]; exact valid_any S M L aS aM cS cM W (by omega) (by omega) (hS.later hB) (hM.later hB))
  have HI : Hid (∀ W1, Below W.heap.size W W1 → Calls Try.prog 110 #[.agg #[.slice aS S.length cS, .slice aM M.length cM, .int .i64 L], .func (.func 111) #[] #[]] W1 fun e w' => ∃ bS bM, e = .returned (.agg #[.slice (some ⟨bS, 0, none⟩) S.length S.length, .slice (some ⟨bM, 0, none⟩) M.length M.length, .int .i64 L]) ∧ Row w' bS 3 (ints (mulS S (swS fun _ => true))) ∧ Row w' bM 3 (ints (mvL (trn (swB S fun _ => true)) M)) ∧ Below W1.heap.size W1 w') := Lib.hid fun W1 h1 =>
    exchange_any S M L aS aM cS cM W1 111 #[] (fun _ => true) Try.call111 hv (fun W' c _ _ => yes_any W' c) (hS.later (below_of hB h1 hB.size)) (hM.later (below_of hB h1 hB.size))
  have Hr0 := Lib.hid r0
  have Hr1 := Lib.hid r1
  have HB := Lib.hid hB
  have Hz := Lib.hid hz
  clear hs hv hS hM r0 r1 hB hz
  go_enter Try.func43, Try.ntmps43
  go_wp2_with fail
  rw [← hW]
  refine HV.out.mono ?_
  rintro e w1 ⟨rfl, hb1⟩
  have Hb1 := Lib.hid hb1
  have hr := Hr0.out.later hb1 Hr0.out.lt
  have hc0 := hr.cell 0
  have hc1 := hr.cell 1
  have hc2 := hr.cell 2
  simp only [List.getElem?_cons_succ, List.getElem?_cons_zero] at hc0 hc1 hc2
  clear hb1 hr hW HV
  go_wp2_with fail
  refine (HI.out w1 Hb1.out).mono ?_
  rintro e w2 ⟨bS, bM, rfl, hS2, hM2, hb2⟩
  have hbb := below_step Hb1.out hb2
  have hR := Hr1.out.later hbb (by have := Hz.out; omega)
  have Hfin : Hid (Row (((w2.setCell ⟨w.heap.size + 1, 0, none⟩ (.slice (some ⟨bS, 0, none⟩) S.length S.length)).setCell ⟨w.heap.size + 1, 1, none⟩ (.slice (some ⟨bM, 0, none⟩) M.length M.length)).setCell ⟨w.heap.size + 1, 2, none⟩ (.int .i64 L)) bS 3 (ints (mulS S (swS fun _ => true))) ∧ Row (((w2.setCell ⟨w.heap.size + 1, 0, none⟩ (.slice (some ⟨bS, 0, none⟩) S.length S.length)).setCell ⟨w.heap.size + 1, 1, none⟩ (.slice (some ⟨bM, 0, none⟩) M.length M.length)).setCell ⟨w.heap.size + 1, 2, none⟩ (.int .i64 L)) bM 3 (ints (mvL (trn (swB S fun _ => true)) M)) ∧ Below w.heap.size w (((w2.setCell ⟨w.heap.size + 1, 0, none⟩ (.slice (some ⟨bS, 0, none⟩) S.length S.length)).setCell ⟨w.heap.size + 1, 1, none⟩ (.slice (some ⟨bM, 0, none⟩) M.length M.length)).setCell ⟨w.heap.size + 1, 2, none⟩ (.int .i64 L))) := Lib.hid (by
    have n1 : bS ≠ w.heap.size + 1 := fun e => by
      have h := hS2
      rw [e] at h
      unfold Row at h hR
      rw [hR] at h
      simp at h
    have n2 : bM ≠ w.heap.size + 1 := fun e => by
      have h := hM2
      rw [e] at h
      unfold Row at h hR
      rw [hR] at h
      simp at h
    have hb3 := below_of HB.out hbb HB.out.size
    exact ⟨((hS2.setOther _ _ n1).setOther _ _ n1).setOther _ _ n1, ((hM2.setOther _ _ n2).setOther _ _ n2).setOther _ _ n2, ((hb3.setCell (by simp) _).setCell (by simp) _).setCell (by simp) _⟩)
  have hRf := res_set hR (.slice (some ⟨bS, 0, none⟩) S.length S.length) (.slice (some ⟨bM, 0, none⟩) M.length M.length) (.int .i64 L)
  have hF0 := hRf.cell 0
  have hF1 := hRf.cell 1
  have hF2 := hRf.cell 2
  have hd0 := hR.cell 0
  have hd1 := hR.cell 1
  have hd2 := hR.cell 2
  have hf0 := hR.frozen 0
  have hf1 := hR.frozen 1
  have hf2 := hR.frozen 2
  simp only [List.getElem?_cons_succ, List.getElem?_cons_zero] at hF0 hF1 hF2 hd0 hd1 hd2
  clear hS2 hM2 hb2 hbb hRf hR HI hc0 hc1 hc2
  go_wp2_with fail
  refine bodyPost_ret (v := .tuple #[.agg #[.slice (some ⟨bS, 0, none⟩) S.length S.length, .slice (some ⟨bM, 0, none⟩) M.length M.length, .int .i64 L], .int .i64 0]) (by simp [results, Try.results43, go_sem, hF0, hF1, hF2]) rfl ?_
  exact ⟨bS, bM, rfl, Hfin.out.1, Hfin.out.2.1, Hfin.out.2.2⟩
theorem mirrorF_yes (S M : List Int) (L : Int) (aS aM : Option Addr) (cS cM : Nat) (w : World) (hv : vldB S M L = true) (hS : IntsAt w aS S) (hM : IntsAt w aM M) :
    Calls Try.prog 43 #[.agg #[.slice aS S.length cS, .slice aM M.length cM, .int .i64 L]] w (DgR w (mulS S (swS fun _ => true)) (mvL (trn (swB S fun _ => true)) M) L 0) := by
  refine (mirrorF_row S M L aS aM cS cM w hv hS hM).mono ?_
  rintro e w' ⟨bS, bM, rfl, h1, h2, h3⟩
  exact ⟨some ⟨bS, 0, none⟩, some ⟨bM, 0, none⟩, S.length, M.length, by rw [mulS_len, mvL_len], h1.at, h2.at, h3⟩
set_option maxRecDepth 100000 in
set_option maxHeartbeats 4000000 in
theorem mirrorF_no (S M : List Int) (L : Int) (aS aM : Option Addr) (cS cM : Nat) (w : World) (hSl : S.length ≤ 1000000000) (hMl : M.length ≤ 1000000000) (hv : vldB S M L = false) (hS : IntsAt w aS S) (hM : IntsAt w aM M) :
    Calls Try.prog 43 #[.agg #[.slice aS S.length cS, .slice aM M.length cM, .int .i64 L]] w (DgR w [] [] 0 1) := by
  obtain ⟨W, hW⟩ : ∃ W, W = (w.alloc (.cells #[.slice aS S.length cS, .slice aM M.length cM, .int .i64 L] 24)).alloc (.cells #[.slice none 0 0, .slice none 0 0, .int .i64 0] 24) := ⟨_, rfl⟩
  have hz : W.heap.size = w.heap.size + 2 := by rw [hW]; simp
  have r1 : Row W (w.heap.size + 1) 24 [.slice none 0 0, .slice none 0 0, .int .i64 0] := by
    rw [hW]
    have := Row.new (w.alloc (.cells #[.slice aS S.length cS, .slice aM M.length cM, .int .i64 L] 24)) #[.slice none 0 0, .slice none 0 0, .int .i64 0] 24
    simpa using this
  have hB : Below w.heap.size w W := by rw [hW]; exact ((Below.refl _ _).alloc (Nat.le_refl _) _).alloc (by simp) _
  have HV : Hid (Calls Try.prog 39 #[.agg #[.slice aS S.length cS, .slice aM M.length cM, .int .i64 L]] W fun e w' => e = .returned (.bool false) ∧ Below W.heap.size W w') := Lib.hid (by
    rw [← hv]; exact valid_any S M L aS aM cS cM W hSl hMl (hS.later hB) (hM.later hB))
  have Hr1 := Lib.hid r1
  have HB := Lib.hid hB
  clear hv hS hM r1 hB hz
  go_enter Try.func43, Try.ntmps43
  go_wp2_with fail
  rw [← hW]
  refine HV.out.mono ?_
  rintro e w1 ⟨rfl, hb1⟩
  have hR := Hr1.out.later hb1 Hr1.out.lt
  have Hfin : Hid (Below w.heap.size w (((w1.setCell ⟨w.heap.size + 1, 0, none⟩ (.slice none 0 0)).setCell ⟨w.heap.size + 1, 1, none⟩ (.slice none 0 0)).setCell ⟨w.heap.size + 1, 2, none⟩ (.int .i64 0))) := Lib.hid ((((below_of HB.out hb1 HB.out.size).setCell (by simp) _).setCell (by simp) _).setCell (by simp) _)
  have hRf := res_set hR (.slice none 0 0) (.slice none 0 0) (.int .i64 0)
  have hF0 := hRf.cell 0
  have hF1 := hRf.cell 1
  have hF2 := hRf.cell 2
  have hd0 := hR.cell 0
  have hd1 := hR.cell 1
  have hd2 := hR.cell 2
  have hf0 := hR.frozen 0
  have hf1 := hR.frozen 1
  have hf2 := hR.frozen 2
  simp only [List.getElem?_cons_succ, List.getElem?_cons_zero] at hF0 hF1 hF2 hd0 hd1 hd2
  clear hb1 hR hRf hW HV
  go_wp2_with fail
  refine bodyPost_ret (v := .tuple #[.agg #[.slice none 0 0, .slice none 0 0, .int .i64 0], .int .i64 1]) (by simp [results, Try.results43, go_sem, hF0, hF1, hF2]) rfl ?_
  exact ⟨none, none, 0, 0, rfl, IntsAt.nil _ _, IntsAt.nil _ _, Hfin.out⟩
set_option maxRecDepth 100000 in
set_option maxHeartbeats 4000000 in
theorem reflectF_row (S M : List Int) (L : Int) (aS aM : Option Addr) (cS cM : Nat) (w : World) (hv : vldB S M L = true) (hS : IntsAt w aS S) (hM : IntsAt w aM M) :
    Calls Try.prog 44 #[.agg #[.slice aS S.length cS, .slice aM M.length cM, .int .i64 L]] w fun e w' => ∃ bS bM : Nat, e = .returned (.tuple #[.agg #[.slice (some ⟨bS, 0, none⟩) S.length S.length, .slice (some ⟨bM, 0, none⟩) M.length M.length, .int .i64 L], .int .i64 0]) ∧ Row w' bS 3 (ints (mulS S fun _ => -1)) ∧ Row w' bM 3 (ints (mvL rfl4 M)) ∧ Below w.heap.size w w' := by
  have hs := vldB_shape hv
  have hSl := hs.few
  have hMl : M.length ≤ 256 := by have := hs.len; omega
  obtain ⟨W, hW⟩ : ∃ W, W = (w.alloc (.cells #[.slice aS S.length cS, .slice aM M.length cM, .int .i64 L] 24)).alloc (.cells #[.slice none 0 0, .slice none 0 0, .int .i64 0] 24) := ⟨_, rfl⟩
  have hz : W.heap.size = w.heap.size + 2 := by rw [hW]; simp
  have r0 : Row W w.heap.size 24 [.slice aS S.length cS, .slice aM M.length cM, .int .i64 L] := by rw [hW]; exact (Row.new w #[.slice aS S.length cS, .slice aM M.length cM, .int .i64 L] 24).alloc _
  have r1 : Row W (w.heap.size + 1) 24 [.slice none 0 0, .slice none 0 0, .int .i64 0] := by
    rw [hW]
    have := Row.new (w.alloc (.cells #[.slice aS S.length cS, .slice aM M.length cM, .int .i64 L] 24)) #[.slice none 0 0, .slice none 0 0, .int .i64 0] 24
    simpa using this
  have hB : Below w.heap.size w W := by rw [hW]; exact ((Below.refl _ _).alloc (Nat.le_refl _) _).alloc (by simp) _
  have HV : Hid (Calls Try.prog 39 #[.agg #[.slice aS S.length cS, .slice aM M.length cM, .int .i64 L]] W fun e w' => e = .returned (.bool true) ∧ Below W.heap.size W w') := Lib.hid (by
    rw [← hv]; exact valid_any S M L aS aM cS cM W (by omega) (by omega) (hS.later hB) (hM.later hB))
  have HI : Hid (∀ W1, Below W.heap.size W W1 → Calls Try.prog 113 #[.agg #[.slice aS S.length cS, .slice aM M.length cM, .int .i64 L], .func (.func 112) #[] #[], .func (.func 114) #[] #[]] W1 fun e w' => ∃ bS bM, e = .returned (.agg #[.slice (some ⟨bS, 0, none⟩) S.length S.length, .slice (some ⟨bM, 0, none⟩) M.length M.length, .int .i64 L]) ∧ Row w' bS 3 (ints (mulS S fun _ => -1)) ∧ Row w' bM 3 (ints (mvL rfl4 M)) ∧ Below W1.heap.size W1 w') := Lib.hid fun W1 h1 =>
    move_any S M L aS aM cS cM S.length W1 112 114 #[] #[] (fun _ x => 4 - 2 * (x : Int)) (fun _ => -1) Try.call112 Try.call114 rfl hs.few hs.len hs.mtOk (fun c _ => by have := hs.signBd c; omega) hs.signBd (fun _ _ => by omega) (fun _ x _ _ => by omega)
      (fun W' c x _ _ hx => rfl1_any W' c x hx) (fun W' c _ _ => rfl2_any W' c) (hS.later (below_of hB h1 hB.size)) (hM.later (below_of hB h1 hB.size))
  have Hr0 := Lib.hid r0
  have Hr1 := Lib.hid r1
  have HB := Lib.hid hB
  have Hz := Lib.hid hz
  clear hs hv hS hM r0 r1 hB hz
  go_enter Try.func44, Try.ntmps44
  go_wp2_with fail
  rw [← hW]
  refine HV.out.mono ?_
  rintro e w1 ⟨rfl, hb1⟩
  have Hb1 := Lib.hid hb1
  have hr := Hr0.out.later hb1 Hr0.out.lt
  have hc0 := hr.cell 0
  have hc1 := hr.cell 1
  have hc2 := hr.cell 2
  simp only [List.getElem?_cons_succ, List.getElem?_cons_zero] at hc0 hc1 hc2
  clear hb1 hr hW HV
  go_wp2_with fail
  refine (HI.out w1 Hb1.out).mono ?_
  rintro e w2 ⟨bS, bM, rfl, hS2, hM2, hb2⟩
  have hbb := below_step Hb1.out hb2
  have hR := Hr1.out.later hbb (by have := Hz.out; omega)
  have Hfin : Hid (Row (((w2.setCell ⟨w.heap.size + 1, 0, none⟩ (.slice (some ⟨bS, 0, none⟩) S.length S.length)).setCell ⟨w.heap.size + 1, 1, none⟩ (.slice (some ⟨bM, 0, none⟩) M.length M.length)).setCell ⟨w.heap.size + 1, 2, none⟩ (.int .i64 L)) bS 3 (ints (mulS S fun _ => -1)) ∧ Row (((w2.setCell ⟨w.heap.size + 1, 0, none⟩ (.slice (some ⟨bS, 0, none⟩) S.length S.length)).setCell ⟨w.heap.size + 1, 1, none⟩ (.slice (some ⟨bM, 0, none⟩) M.length M.length)).setCell ⟨w.heap.size + 1, 2, none⟩ (.int .i64 L)) bM 3 (ints (mvL rfl4 M)) ∧ Below w.heap.size w (((w2.setCell ⟨w.heap.size + 1, 0, none⟩ (.slice (some ⟨bS, 0, none⟩) S.length S.length)).setCell ⟨w.heap.size + 1, 1, none⟩ (.slice (some ⟨bM, 0, none⟩) M.length M.length)).setCell ⟨w.heap.size + 1, 2, none⟩ (.int .i64 L))) := Lib.hid (by
    have n1 : bS ≠ w.heap.size + 1 := fun e => by
      have h := hS2
      rw [e] at h
      unfold Row at h hR
      rw [hR] at h
      simp at h
    have n2 : bM ≠ w.heap.size + 1 := fun e => by
      have h := hM2
      rw [e] at h
      unfold Row at h hR
      rw [hR] at h
      simp at h
    have hb3 := below_of HB.out hbb HB.out.size
    exact ⟨((hS2.setOther _ _ n1).setOther _ _ n1).setOther _ _ n1, ((hM2.setOther _ _ n2).setOther _ _ n2).setOther _ _ n2, ((hb3.setCell (by simp) _).setCell (by simp) _).setCell (by simp) _⟩)
  have hRf := res_set hR (.slice (some ⟨bS, 0, none⟩) S.length S.length) (.slice (some ⟨bM, 0, none⟩) M.length M.length) (.int .i64 L)
  have hF0 := hRf.cell 0
  have hF1 := hRf.cell 1
  have hF2 := hRf.cell 2
  have hd0 := hR.cell 0
  have hd1 := hR.cell 1
  have hd2 := hR.cell 2
  have hf0 := hR.frozen 0
  have hf1 := hR.frozen 1
  have hf2 := hR.frozen 2
  simp only [List.getElem?_cons_succ, List.getElem?_cons_zero] at hF0 hF1 hF2 hd0 hd1 hd2
  clear hS2 hM2 hb2 hbb hRf hR HI hc0 hc1 hc2
  go_wp2_with fail
  refine bodyPost_ret (v := .tuple #[.agg #[.slice (some ⟨bS, 0, none⟩) S.length S.length, .slice (some ⟨bM, 0, none⟩) M.length M.length, .int .i64 L], .int .i64 0]) (by simp [results, Try.results44, go_sem, hF0, hF1, hF2]) rfl ?_
  exact ⟨bS, bM, rfl, Hfin.out.1, Hfin.out.2.1, Hfin.out.2.2⟩
theorem reflectF_yes (S M : List Int) (L : Int) (aS aM : Option Addr) (cS cM : Nat) (w : World) (hv : vldB S M L = true) (hS : IntsAt w aS S) (hM : IntsAt w aM M) :
    Calls Try.prog 44 #[.agg #[.slice aS S.length cS, .slice aM M.length cM, .int .i64 L]] w (DgR w (mulS S fun _ => -1) (mvL rfl4 M) L 0) := by
  refine (reflectF_row S M L aS aM cS cM w hv hS hM).mono ?_
  rintro e w' ⟨bS, bM, rfl, h1, h2, h3⟩
  exact ⟨some ⟨bS, 0, none⟩, some ⟨bM, 0, none⟩, S.length, M.length, by rw [mulS_len, mvL_len], h1.at, h2.at, h3⟩
set_option maxRecDepth 100000 in
set_option maxHeartbeats 4000000 in
theorem reflectF_no (S M : List Int) (L : Int) (aS aM : Option Addr) (cS cM : Nat) (w : World) (hSl : S.length ≤ 1000000000) (hMl : M.length ≤ 1000000000) (hv : vldB S M L = false) (hS : IntsAt w aS S) (hM : IntsAt w aM M) :
    Calls Try.prog 44 #[.agg #[.slice aS S.length cS, .slice aM M.length cM, .int .i64 L]] w (DgR w [] [] 0 1) := by
  obtain ⟨W, hW⟩ : ∃ W, W = (w.alloc (.cells #[.slice aS S.length cS, .slice aM M.length cM, .int .i64 L] 24)).alloc (.cells #[.slice none 0 0, .slice none 0 0, .int .i64 0] 24) := ⟨_, rfl⟩
  have hz : W.heap.size = w.heap.size + 2 := by rw [hW]; simp
  have r1 : Row W (w.heap.size + 1) 24 [.slice none 0 0, .slice none 0 0, .int .i64 0] := by
    rw [hW]
    have := Row.new (w.alloc (.cells #[.slice aS S.length cS, .slice aM M.length cM, .int .i64 L] 24)) #[.slice none 0 0, .slice none 0 0, .int .i64 0] 24
    simpa using this
  have hB : Below w.heap.size w W := by rw [hW]; exact ((Below.refl _ _).alloc (Nat.le_refl _) _).alloc (by simp) _
  have HV : Hid (Calls Try.prog 39 #[.agg #[.slice aS S.length cS, .slice aM M.length cM, .int .i64 L]] W fun e w' => e = .returned (.bool false) ∧ Below W.heap.size W w') := Lib.hid (by
    rw [← hv]; exact valid_any S M L aS aM cS cM W hSl hMl (hS.later hB) (hM.later hB))
  have Hr1 := Lib.hid r1
  have HB := Lib.hid hB
  clear hv hS hM r1 hB hz
  go_enter Try.func44, Try.ntmps44
  go_wp2_with fail
  rw [← hW]
  refine HV.out.mono ?_
  rintro e w1 ⟨rfl, hb1⟩
  have hR := Hr1.out.later hb1 Hr1.out.lt
  have Hfin : Hid (Below w.heap.size w (((w1.setCell ⟨w.heap.size + 1, 0, none⟩ (.slice none 0 0)).setCell ⟨w.heap.size + 1, 1, none⟩ (.slice none 0 0)).setCell ⟨w.heap.size + 1, 2, none⟩ (.int .i64 0))) := Lib.hid ((((below_of HB.out hb1 HB.out.size).setCell (by simp) _).setCell (by simp) _).setCell (by simp) _)
  have hRf := res_set hR (.slice none 0 0) (.slice none 0 0) (.int .i64 0)
  have hF0 := hRf.cell 0
  have hF1 := hRf.cell 1
  have hF2 := hRf.cell 2
  have hd0 := hR.cell 0
  have hd1 := hR.cell 1
  have hd2 := hR.cell 2
  have hf0 := hR.frozen 0
  have hf1 := hR.frozen 1
  have hf2 := hR.frozen 2
  simp only [List.getElem?_cons_succ, List.getElem?_cons_zero] at hF0 hF1 hF2 hd0 hd1 hd2
  clear hb1 hR hRf hW HV
  go_wp2_with fail
  refine bodyPost_ret (v := .tuple #[.agg #[.slice none 0 0, .slice none 0 0, .int .i64 0], .int .i64 1]) (by simp [results, Try.results44, go_sem, hF0, hF1, hF2]) rfl ?_
  exact ⟨none, none, 0, 0, rfl, IntsAt.nil _ _, IntsAt.nil _ _, Hfin.out⟩
set_option maxRecDepth 100000 in
set_option maxHeartbeats 4000000 in
theorem reverseF_row (S M : List Int) (L : Int) (aS aM : Option Addr) (cS cM : Nat) (w : World) (hv : vldB S M L = true) (hS : IntsAt w aS S) (hM : IntsAt w aM M) :
    Calls Try.prog 45 #[.agg #[.slice aS S.length cS, .slice aM M.length cM, .int .i64 L]] w fun e w' => ∃ bS bM : Nat, e = .returned (.tuple #[.agg #[.slice (some ⟨bS, 0, none⟩) S.length S.length, .slice (some ⟨bM, 0, none⟩) M.length M.length, .int .i64 L], .int .i64 0]) ∧ Row w' bS 3 (ints (mulS S fun _ => 1)) ∧ Row w' bM 3 (ints (mvL (trn fun _ => 2) M)) ∧ Below w.heap.size w w' := by
  have hs := vldB_shape hv
  have hSl := hs.few
  have hMl : M.length ≤ 256 := by have := hs.len; omega
  obtain ⟨W, hW⟩ : ∃ W, W = (w.alloc (.cells #[.slice aS S.length cS, .slice aM M.length cM, .int .i64 L] 24)).alloc (.cells #[.slice none 0 0, .slice none 0 0, .int .i64 0] 24) := ⟨_, rfl⟩
  have hz : W.heap.size = w.heap.size + 2 := by rw [hW]; simp
  have r0 : Row W w.heap.size 24 [.slice aS S.length cS, .slice aM M.length cM, .int .i64 L] := by rw [hW]; exact (Row.new w #[.slice aS S.length cS, .slice aM M.length cM, .int .i64 L] 24).alloc _
  have r1 : Row W (w.heap.size + 1) 24 [.slice none 0 0, .slice none 0 0, .int .i64 0] := by
    rw [hW]
    have := Row.new (w.alloc (.cells #[.slice aS S.length cS, .slice aM M.length cM, .int .i64 L] 24)) #[.slice none 0 0, .slice none 0 0, .int .i64 0] 24
    simpa using this
  have hB : Below w.heap.size w W := by rw [hW]; exact ((Below.refl _ _).alloc (Nat.le_refl _) _).alloc (by simp) _
  have HV : Hid (Calls Try.prog 39 #[.agg #[.slice aS S.length cS, .slice aM M.length cM, .int .i64 L]] W fun e w' => e = .returned (.bool true) ∧ Below W.heap.size W w') := Lib.hid (by
    rw [← hv]; exact valid_any S M L aS aM cS cM W (by omega) (by omega) (hS.later hB) (hM.later hB))
  have HI : Hid (∀ W1, Below W.heap.size W W1 → Calls Try.prog 113 #[.agg #[.slice aS S.length cS, .slice aM M.length cM, .int .i64 L], .func (.func 115) #[] #[], .func (.func 116) #[] #[]] W1 fun e w' => ∃ bS bM, e = .returned (.agg #[.slice (some ⟨bS, 0, none⟩) S.length S.length, .slice (some ⟨bM, 0, none⟩) M.length M.length, .int .i64 L]) ∧ Row w' bS 3 (ints (mulS S fun _ => 1)) ∧ Row w' bM 3 (ints (mvL (trn fun _ => 2) M)) ∧ Below W1.heap.size W1 w') := Lib.hid fun W1 h1 =>
    move_any S M L aS aM cS cM S.length W1 115 116 #[] #[] (fun _ _ => 2) (fun _ => 1) Try.call115 Try.call116 rfl hs.few hs.len hs.mtOk (fun c _ => by have := hs.signBd c; omega) hs.signBd (fun _ _ => by omega) (fun _ _ _ _ => by omega)
      (fun W' c x _ _ _ => rev1_any W' c x) (fun W' c _ _ => rev2_any W' c) (hS.later (below_of hB h1 hB.size)) (hM.later (below_of hB h1 hB.size))
  have Hr0 := Lib.hid r0
  have Hr1 := Lib.hid r1
  have HB := Lib.hid hB
  have Hz := Lib.hid hz
  clear hs hv hS hM r0 r1 hB hz
  go_enter Try.func45, Try.ntmps45
  go_wp2_with fail
  rw [← hW]
  refine HV.out.mono ?_
  rintro e w1 ⟨rfl, hb1⟩
  have Hb1 := Lib.hid hb1
  have hr := Hr0.out.later hb1 Hr0.out.lt
  have hc0 := hr.cell 0
  have hc1 := hr.cell 1
  have hc2 := hr.cell 2
  simp only [List.getElem?_cons_succ, List.getElem?_cons_zero] at hc0 hc1 hc2
  clear hb1 hr hW HV
  go_wp2_with fail
  refine (HI.out w1 Hb1.out).mono ?_
  rintro e w2 ⟨bS, bM, rfl, hS2, hM2, hb2⟩
  have hbb := below_step Hb1.out hb2
  have hR := Hr1.out.later hbb (by have := Hz.out; omega)
  have Hfin : Hid (Row (((w2.setCell ⟨w.heap.size + 1, 0, none⟩ (.slice (some ⟨bS, 0, none⟩) S.length S.length)).setCell ⟨w.heap.size + 1, 1, none⟩ (.slice (some ⟨bM, 0, none⟩) M.length M.length)).setCell ⟨w.heap.size + 1, 2, none⟩ (.int .i64 L)) bS 3 (ints (mulS S fun _ => 1)) ∧ Row (((w2.setCell ⟨w.heap.size + 1, 0, none⟩ (.slice (some ⟨bS, 0, none⟩) S.length S.length)).setCell ⟨w.heap.size + 1, 1, none⟩ (.slice (some ⟨bM, 0, none⟩) M.length M.length)).setCell ⟨w.heap.size + 1, 2, none⟩ (.int .i64 L)) bM 3 (ints (mvL (trn fun _ => 2) M)) ∧ Below w.heap.size w (((w2.setCell ⟨w.heap.size + 1, 0, none⟩ (.slice (some ⟨bS, 0, none⟩) S.length S.length)).setCell ⟨w.heap.size + 1, 1, none⟩ (.slice (some ⟨bM, 0, none⟩) M.length M.length)).setCell ⟨w.heap.size + 1, 2, none⟩ (.int .i64 L))) := Lib.hid (by
    have n1 : bS ≠ w.heap.size + 1 := fun e => by
      have h := hS2
      rw [e] at h
      unfold Row at h hR
      rw [hR] at h
      simp at h
    have n2 : bM ≠ w.heap.size + 1 := fun e => by
      have h := hM2
      rw [e] at h
      unfold Row at h hR
      rw [hR] at h
      simp at h
    have hb3 := below_of HB.out hbb HB.out.size
    exact ⟨((hS2.setOther _ _ n1).setOther _ _ n1).setOther _ _ n1, ((hM2.setOther _ _ n2).setOther _ _ n2).setOther _ _ n2, ((hb3.setCell (by simp) _).setCell (by simp) _).setCell (by simp) _⟩)
  have hRf := res_set hR (.slice (some ⟨bS, 0, none⟩) S.length S.length) (.slice (some ⟨bM, 0, none⟩) M.length M.length) (.int .i64 L)
  have hF0 := hRf.cell 0
  have hF1 := hRf.cell 1
  have hF2 := hRf.cell 2
  have hd0 := hR.cell 0
  have hd1 := hR.cell 1
  have hd2 := hR.cell 2
  have hf0 := hR.frozen 0
  have hf1 := hR.frozen 1
  have hf2 := hR.frozen 2
  simp only [List.getElem?_cons_succ, List.getElem?_cons_zero] at hF0 hF1 hF2 hd0 hd1 hd2
  clear hS2 hM2 hb2 hbb hRf hR HI hc0 hc1 hc2
  go_wp2_with fail
  refine bodyPost_ret (v := .tuple #[.agg #[.slice (some ⟨bS, 0, none⟩) S.length S.length, .slice (some ⟨bM, 0, none⟩) M.length M.length, .int .i64 L], .int .i64 0]) (by simp [results, Try.results45, go_sem, hF0, hF1, hF2]) rfl ?_
  exact ⟨bS, bM, rfl, Hfin.out.1, Hfin.out.2.1, Hfin.out.2.2⟩
theorem reverseF_yes (S M : List Int) (L : Int) (aS aM : Option Addr) (cS cM : Nat) (w : World) (hv : vldB S M L = true) (hS : IntsAt w aS S) (hM : IntsAt w aM M) :
    Calls Try.prog 45 #[.agg #[.slice aS S.length cS, .slice aM M.length cM, .int .i64 L]] w (DgR w (mulS S fun _ => 1) (mvL (trn fun _ => 2) M) L 0) := by
  refine (reverseF_row S M L aS aM cS cM w hv hS hM).mono ?_
  rintro e w' ⟨bS, bM, rfl, h1, h2, h3⟩
  exact ⟨some ⟨bS, 0, none⟩, some ⟨bM, 0, none⟩, S.length, M.length, by rw [mulS_len, mvL_len], h1.at, h2.at, h3⟩
set_option maxRecDepth 100000 in
set_option maxHeartbeats 4000000 in
theorem reverseF_no (S M : List Int) (L : Int) (aS aM : Option Addr) (cS cM : Nat) (w : World) (hSl : S.length ≤ 1000000000) (hMl : M.length ≤ 1000000000) (hv : vldB S M L = false) (hS : IntsAt w aS S) (hM : IntsAt w aM M) :
    Calls Try.prog 45 #[.agg #[.slice aS S.length cS, .slice aM M.length cM, .int .i64 L]] w (DgR w [] [] 0 1) := by
  obtain ⟨W, hW⟩ : ∃ W, W = (w.alloc (.cells #[.slice aS S.length cS, .slice aM M.length cM, .int .i64 L] 24)).alloc (.cells #[.slice none 0 0, .slice none 0 0, .int .i64 0] 24) := ⟨_, rfl⟩
  have hz : W.heap.size = w.heap.size + 2 := by rw [hW]; simp
  have r1 : Row W (w.heap.size + 1) 24 [.slice none 0 0, .slice none 0 0, .int .i64 0] := by
    rw [hW]
    have := Row.new (w.alloc (.cells #[.slice aS S.length cS, .slice aM M.length cM, .int .i64 L] 24)) #[.slice none 0 0, .slice none 0 0, .int .i64 0] 24
    simpa using this
  have hB : Below w.heap.size w W := by rw [hW]; exact ((Below.refl _ _).alloc (Nat.le_refl _) _).alloc (by simp) _
  have HV : Hid (Calls Try.prog 39 #[.agg #[.slice aS S.length cS, .slice aM M.length cM, .int .i64 L]] W fun e w' => e = .returned (.bool false) ∧ Below W.heap.size W w') := Lib.hid (by
    rw [← hv]; exact valid_any S M L aS aM cS cM W hSl hMl (hS.later hB) (hM.later hB))
  have Hr1 := Lib.hid r1
  have HB := Lib.hid hB
  clear hv hS hM r1 hB hz
  go_enter Try.func45, Try.ntmps45
  go_wp2_with fail
  rw [← hW]
  refine HV.out.mono ?_
  rintro e w1 ⟨rfl, hb1⟩
  have hR := Hr1.out.later hb1 Hr1.out.lt
  have Hfin : Hid (Below w.heap.size w (((w1.setCell ⟨w.heap.size + 1, 0, none⟩ (.slice none 0 0)).setCell ⟨w.heap.size + 1, 1, none⟩ (.slice none 0 0)).setCell ⟨w.heap.size + 1, 2, none⟩ (.int .i64 0))) := Lib.hid ((((below_of HB.out hb1 HB.out.size).setCell (by simp) _).setCell (by simp) _).setCell (by simp) _)
  have hRf := res_set hR (.slice none 0 0) (.slice none 0 0) (.int .i64 0)
  have hF0 := hRf.cell 0
  have hF1 := hRf.cell 1
  have hF2 := hRf.cell 2
  have hd0 := hR.cell 0
  have hd1 := hR.cell 1
  have hd2 := hR.cell 2
  have hf0 := hR.frozen 0
  have hf1 := hR.frozen 1
  have hf2 := hR.frozen 2
  simp only [List.getElem?_cons_succ, List.getElem?_cons_zero] at hF0 hF1 hF2 hd0 hd1 hd2
  clear hb1 hR hRf hW HV
  go_wp2_with fail
  refine bodyPost_ret (v := .tuple #[.agg #[.slice none 0 0, .slice none 0 0, .int .i64 0], .int .i64 1]) (by simp [results, Try.results45, go_sem, hF0, hF1, hF2]) rfl ?_
  exact ⟨none, none, 0, 0, rfl, IntsAt.nil _ _, IntsAt.nil _ _, Hfin.out⟩
end Go.Proofs.Ytkopbcehfbmnmaa
