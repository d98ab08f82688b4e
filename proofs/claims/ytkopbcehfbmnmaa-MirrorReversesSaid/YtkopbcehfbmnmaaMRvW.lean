/- The walk of the law MirrorReverses. -/
import Derived.Test.YtkopbcehfbmnmaaAwake6
import Derived.Test.YtkopbcehfbmnmaaPasW
import Derived.Test.YtkopbcehfbmnmaaROneW
import Derived.Test.YtkopbcehfbmnmaaMirFW
namespace Go.Proofs.Ytkopbcehfbmnmaa
open Go Go.RowKit
theorem row_ne9 {w : World} {b b' : Nat} {E E' : TypeId} {vs vs' : List Value} (h : Row w b E vs) (h' : Row w b' E' vs') (hE : E ≠ E') : b ≠ b' := fun e => by
  rw [e] at h
  unfold Row at h h'
  rw [h] at h'
  simp only [Option.some.injEq, Obj.cells.injEq] at h'
  exact hE h'.2.1
set_option maxRecDepth 100000 in
set_option maxHeartbeats 16000000 in
theorem mrv_large (S M : List Int) (L : Int) (aS aM : Option Addr) (cS cM : Nat) (w : World) (hSl : S.length ≤ maxLen) (hMl : M.length ≤ maxLen) (hf : few6B S M = false) :
    Calls Try.prog 19 #[.agg #[.slice aS S.length cS, .slice aM M.length cM, .int .i64 L]] w fun e w' => e = .returned (.bool true) ∧ Below w.heap.size w w' := by
  obtain ⟨W, hW⟩ : ∃ W, W = (w.alloc (.cells #[.slice aS S.length cS, .slice aM M.length cM, .int .i64 L] 24)) := ⟨_, rfl⟩
  have h0 : HH w W [(w.heap.size, rowO 24 [.slice aS S.length cS, .slice aM M.length cM, .int .i64 L])] [] := by rw [hW]; exact ((HH.start w).alloc #[.slice aS S.length cS, .slice aM M.length cM, .int .i64 L] 24 rfl rfl)
  have H0 := Lib.hid h0
  have HF : Hid (∀ W', Calls Try.prog 42 #[.agg #[.slice aS S.length cS, .slice aM M.length cM, .int .i64 L]] W' fun e w' => e = .returned (.bool false) ∧ Below W'.heap.size W' w') := Lib.hid fun W' => by rw [← hf]; exact few6_any S M L aS aM cS cM W' hSl hMl
  clear hf hSl hMl h0
  go_enter Try.func19, Try.ntmps19
  go_wp2_with fail
  rw [← hW]
  clear hW
  refine (awake6_any W).mono ?_
  rintro e w1 ⟨rfl, hb1⟩
  have H1 := Lib.hid (H0.out.call hb1)
  clear hb1 H0
  have hc0_0 := H1.out.cell (k := 0) (i := 0) rfl rfl
  have hc0_1 := H1.out.cell (k := 0) (i := 1) rfl rfl
  have hc0_2 := H1.out.cell (k := 0) (i := 2) rfl rfl
  go_wp2_with fail
  refine (HF.out w1).mono ?_
  rintro e w2 ⟨rfl, hb2⟩
  have H2 := Lib.hid (H1.out.call hb2)
  clear hb2 H1
  clear hc0_0 hc0_1 hc0_2
  have hc0_0 := H2.out.cell (k := 0) (i := 0) rfl rfl
  have hc0_1 := H2.out.cell (k := 0) (i := 1) rfl rfl
  have hc0_2 := H2.out.cell (k := 0) (i := 2) rfl rfl
  go_wp2_with fail
  refine (awake6_any w2).mono ?_
  rintro e w3 ⟨rfl, hb3⟩
  have H3 := Lib.hid (H2.out.call hb3)
  clear hb3 H2
  clear hc0_0 hc0_1 hc0_2
  have hc0_0 := H3.out.cell (k := 0) (i := 0) rfl rfl
  have hc0_1 := H3.out.cell (k := 0) (i := 1) rfl rfl
  have hc0_2 := H3.out.cell (k := 0) (i := 2) rfl rfl
  go_wp2_with fail
  go_ret
  exact ⟨rfl, H3.out.below⟩
set_option maxRecDepth 100000 in
set_option maxHeartbeats 16000000 in
theorem mrv_no (S M : List Int) (L : Int) (aS aM : Option Addr) (cS cM : Nat) (w : World) (hf : few6B S M = true) (hv : vldB S M L = false) (hS : IntsAt w aS S) (hM : IntsAt w aM M) :
    Calls Try.prog 19 #[.agg #[.slice aS S.length cS, .slice aM M.length cM, .int .i64 L]] w fun e w' => e = .returned (.bool true) ∧ Below w.heap.size w w' := by
  have hl : S.length ≤ 14 ∧ M.length ≤ 70 := by
    have := of_decide_eq_true hf
    exact ⟨this.1, this.2⟩
  have hSl : S.length ≤ 1000000000 := by omega
  have hMl : M.length ≤ 1000000000 := by omega
  obtain ⟨W, hW⟩ : ∃ W, W = (w.alloc (.cells #[.slice aS S.length cS, .slice aM M.length cM, .int .i64 L] 24)) := ⟨_, rfl⟩
  have h0 : HH w W [(w.heap.size, rowO 24 [.slice aS S.length cS, .slice aM M.length cM, .int .i64 L])] [] := by rw [hW]; exact ((HH.start w).alloc #[.slice aS S.length cS, .slice aM M.length cM, .int .i64 L] 24 rfl rfl)
  have H0 := Lib.hid h0
  have H42 : Hid (∀ W', Below w.heap.size w W' → Calls Try.prog 42 #[.agg #[.slice aS S.length cS, .slice aM M.length cM, .int .i64 L]] W' fun e w' => e = .returned (.bool true) ∧ Below W'.heap.size W' w') := Lib.hid fun W' hW' => by rw [← hf]; exact few6_any S M L aS aM cS cM W' (by unfold maxLen; omega) (by unfold maxLen; omega)
  have H39 : Hid (∀ W', Below w.heap.size w W' → Calls Try.prog 39 #[.agg #[.slice aS S.length cS, .slice aM M.length cM, .int .i64 L]] W' fun e w' => e = .returned (.bool false) ∧ Below W'.heap.size W' w') := Lib.hid fun W' hW' => by rw [← hv]; exact valid_any S M L aS aM cS cM W' hSl hMl (hS.later hW') (hM.later hW')
  clear hf hv hSl hMl hS hM hl h0
  go_enter Try.func19, Try.ntmps19
  go_wp2_with fail
  rw [← hW]
  clear hW
  refine (awake6_any W).mono ?_
  rintro e w1 ⟨rfl, hb1⟩
  have H1 := Lib.hid (H0.out.call hb1)
  clear hb1 H0
  have hc0_0 := H1.out.cell (k := 0) (i := 0) rfl rfl
  have hc0_1 := H1.out.cell (k := 0) (i := 1) rfl rfl
  have hc0_2 := H1.out.cell (k := 0) (i := 2) rfl rfl
  go_wp2_with fail
  refine (H42.out w1 H1.out.below).mono ?_
  rintro e w2 ⟨rfl, hb2⟩
  have H2 := Lib.hid (H1.out.call hb2)
  clear hb2 H1
  clear hc0_0 hc0_1 hc0_2
  have hc0_0 := H2.out.cell (k := 0) (i := 0) rfl rfl
  have hc0_1 := H2.out.cell (k := 0) (i := 1) rfl rfl
  have hc0_2 := H2.out.cell (k := 0) (i := 2) rfl rfl
  go_wp2_with fail
  refine (H39.out w2 H2.out.below).mono ?_
  rintro e w3 ⟨rfl, hb3⟩
  have H3 := Lib.hid (H2.out.call hb3)
  clear hb3 H2
  clear hc0_0 hc0_1 hc0_2
  have hc0_0 := H3.out.cell (k := 0) (i := 0) rfl rfl
  have hc0_1 := H3.out.cell (k := 0) (i := 1) rfl rfl
  have hc0_2 := H3.out.cell (k := 0) (i := 2) rfl rfl
  go_wp2_with fail
  refine (awake6_any w3).mono ?_
  rintro e w4 ⟨rfl, hb4⟩
  have H4 := Lib.hid (H3.out.call hb4)
  clear hb4 H3
  clear hc0_0 hc0_1 hc0_2
  have hc0_0 := H4.out.cell (k := 0) (i := 0) rfl rfl
  have hc0_1 := H4.out.cell (k := 0) (i := 1) rfl rfl
  have hc0_2 := H4.out.cell (k := 0) (i := 2) rfl rfl
  go_wp2_with fail
  go_ret
  exact ⟨rfl, H4.out.below⟩
set_option maxRecDepth 100000 in
set_option maxHeartbeats 16000000 in
theorem mrv_yes (S M : List Int) (L : Int) (aS aM : Option Addr) (cS cM : Nat) (w : World) (hf : few6B S M = true) (hv : vldB S M L = true) (hS : IntsAt w aS S) (hM : IntsAt w aM M) :
    Calls Try.prog 19 #[.agg #[.slice aS S.length cS, .slice aM M.length cM, .int .i64 L]] w fun e w' => e = .returned (.bool true) ∧ Below w.heap.size w w' := by
  have hl : S.length ≤ 14 ∧ M.length ≤ 70 := by
    have := of_decide_eq_true hf
    exact ⟨this.1, this.2⟩
  have hSl : S.length ≤ 1000000000 := by omega
  have hMl : M.length ≤ 1000000000 := by omega
  obtain ⟨W, hW⟩ : ∃ W, W = (w.alloc (.cells #[.slice aS S.length cS, .slice aM M.length cM, .int .i64 L] 24)) := ⟨_, rfl⟩
  have h0 : HH w W [(w.heap.size, rowO 24 [.slice aS S.length cS, .slice aM M.length cM, .int .i64 L])] [] := by rw [hW]; exact ((HH.start w).alloc #[.slice aS S.length cS, .slice aM M.length cM, .int .i64 L] 24 rfl rfl)
  have H0 := Lib.hid h0
  have H42 : Hid (∀ W', Below w.heap.size w W' → Calls Try.prog 42 #[.agg #[.slice aS S.length cS, .slice aM M.length cM, .int .i64 L]] W' fun e w' => e = .returned (.bool true) ∧ Below W'.heap.size W' w') := Lib.hid fun W' hW' => by rw [← hf]; exact few6_any S M L aS aM cS cM W' (by unfold maxLen; omega) (by unfold maxLen; omega)
  have H39 : Hid (∀ W', Below w.heap.size w W' → Calls Try.prog 39 #[.agg #[.slice aS S.length cS, .slice aM M.length cM, .int .i64 L]] W' fun e w' => e = .returned (.bool true) ∧ Below W'.heap.size W' w') := Lib.hid fun W' hW' => by rw [← hv]; exact valid_any S M L aS aM cS cM W' hSl hMl (hS.later hW') (hM.later hW')
  have lR1 : (mulS S fun _ => 1).length = S.length := mulS_len _ _
  have lR2 : (mvL (trn fun _ => 2) M).length = M.length := mvL_len _ _
  have lX1 : ∀ i, (rvS S M (bl i)).length = S.length := fun i => rvS_len S M _
  have lX2 : ∀ i, (rvM S M (bl i)).length = M.length := fun i => mvL_len _ _
  have hvx : ∀ i, vldB (rvS S M (bl i)) (rvM S M (bl i)) L = true := fun i => rA_valid hv (bl i)
  have H45 : Hid (∀ W', Below w.heap.size w W' → Calls Try.prog 45 #[.agg #[.slice aS S.length cS, .slice aM M.length cM, .int .i64 L]] W' (fun e w' => ∃ (a b : Option Addr) (c d : Nat), e = .returned (.tuple #[.agg #[.slice a S.length c, .slice b M.length d, .int .i64 L], .int .i64 0]) ∧ IntsAt w' a (mulS S fun _ => 1) ∧ IntsAt w' b (mvL (trn fun _ => 2) M) ∧ Below W'.heap.size W' w')) := Lib.hid fun W' hW' => (reverseF_yes S M L aS aM cS cM W' hv (hS.later hW') (hM.later hW')).mono fun e w' ⟨a, b, c, d, he, h1, h2, hb⟩ => ⟨a, b, c, d, (by rw [lR1, lR2] at he; exact he), h1, h2, hb⟩
  have H54 : Hid (∀ W', Below w.heap.size w W' → Calls Try.prog 54 #[.agg #[.slice aS S.length cS, .slice aM M.length cM, .int .i64 L]] W' (fun e w' => ∃ a c, e = .returned (.slice a (strandsL S M L).length c) ∧ Below W'.heap.size W' w' ∧ OwnRows w' W'.heap.size a c ((strandsL S M L).map nats))) := Lib.hid fun W' hW' => strands_any S M L aS aM cS cM W' hSl hMl (hS.later hW') (hM.later hW')
  have HSX : Hid (∀ (i : Nat) (a b : Option Addr) (c d : Nat) (W' : World), IntsAt W' a (rvS S M (bl i)) → IntsAt W' b (rvM S M (bl i)) → Calls Try.prog 54 #[.agg #[.slice a S.length c, .slice b M.length d, .int .i64 L]] W' (fun e w' => ∃ A cA, e = .returned (.slice A (strandsL (rvS S M (bl i)) (rvM S M (bl i)) L).length cA) ∧ Below W'.heap.size W' w' ∧ OwnRows w' W'.heap.size A cA ((strandsL (rvS S M (bl i)) (rvM S M (bl i)) L).map nats))) := Lib.hid fun i a b c d W' i1 i2 => by
    have h := strands_any (rvS S M (bl i)) (rvM S M (bl i)) L a b c d W' (by rw [lX1]; exact hSl) (by rw [lX2]; exact hMl) i1 i2
    rw [lX1, lX2] at h
    exact h
  have HRO : Hid (∀ (i j : Nat) (a b : Option Addr) (c d : Nat) (W' : World), j < (strandsL (rvS S M (bl i)) (rvM S M (bl i)) L).length → mulS (rvS S M (bl i)) (r1S (rvS S M (bl i)) (rvM S M (bl i)) j) = (rvS S M (bl (i + 1))) → mvL (trn (r1B (rvS S M (bl i)) (rvM S M (bl i)) j)) (rvM S M (bl i)) = (rvM S M (bl (i + 1))) → IntsAt W' a (rvS S M (bl i)) → IntsAt W' b (rvM S M (bl i)) → Calls Try.prog 56 #[.agg #[.slice a S.length c, .slice b M.length d, .int .i64 L], .int .i64 (j : Int)] W' (fun e w' => ∃ bS bM : Nat, e = .returned (.tuple #[.agg #[.slice (some ⟨bS, 0, none⟩) S.length S.length, .slice (some ⟨bM, 0, none⟩) M.length M.length, .int .i64 L], .int .i64 0]) ∧ Row w' bS 3 (ints (rvS S M (bl (i + 1)))) ∧ Row w' bM 3 (ints (rvM S M (bl (i + 1)))) ∧ Below W'.heap.size W' w')) := Lib.hid fun i j a b c d W' hj e1 e2 i1 i2 => by
    have h := rone_row (rvS S M (bl i)) (rvM S M (bl i)) L a b c d j W' (hvx i) (by have := (vldB_shape (hvx i)).lo; omega) i1 i2
    rw [lX1, lX2, e1, e2] at h
    exact h
  have H53 : Hid (∀ (a b a' b' : Option Addr) (c d c' d' : Nat) (W' : World), IntsAt W' a (rvS S M (bl (strandsL S M L).length)) → IntsAt W' b (rvM S M (bl (strandsL S M L).length)) → IntsAt W' a' (mulS S fun _ => 1) → IntsAt W' b' (mvL (trn fun _ => 2) M) → Calls Try.prog 53 #[.agg #[.slice a S.length c, .slice b M.length d, .int .i64 L], .agg #[.slice a' S.length c', .slice b' M.length d', .int .i64 L]] W' (fun e w' => e = .returned (.bool true) ∧ Below W'.heap.size W' w')) := Lib.hid fun a b a' b' c d c' d' W' i1 i2 i3 i4 => by
    rw [(rev_all hv).1] at i1
    rw [(rev_all hv).2] at i2
    have h := equalD_any (mulS S fun _ => 1) (mvL (trn fun _ => 2) M) (mulS S fun _ => 1) (mvL (trn fun _ => 2) M) L L a b a' b' c d c' d' W' (by rw [lR1]; exact hSl) (by rw [lR2]; exact hMl) i1 i2 i3 i4
    rw [show eqD (mulS S fun _ => 1) (mvL (trn fun _ => 2) M) L (mulS S fun _ => 1) (mvL (trn fun _ => 2) M) L = true from decide_eq_true ⟨rfl, rfl, rfl⟩, lR1, lR2] at h
    exact h
  have HPS : Hid (∀ (S1 M1 : List Int) (i : Nat) (l : List Nat) (a : Option Addr) (c : Nat) (W' : World), vldB S1 M1 L = true → S1.length ≤ 14 → (strandsL S1 M1 L)[i]? = some l → IntsAt W' a (nats l) → Calls Try.prog 72 #[.slice a l.length c] W' (fun e w' => ∃ a' c', e = .returned (.slice a' l.length c') ∧ IntsAt w' a' (srt (psg l)) ∧ Below W'.heap.size W' w')) := Lib.hid fun S1 M1 i l a c W' h1 hl1 h2 h3 => by
    have hL := strandsL_lists h1
    have hle := hL.len i l h2
    exact (passages_any l a c W' (strand_pos h1 h2) (by omega) (fun j x hx => by have := hL.lt i l j x h2 hx; omega) h3).mono fun e w' ⟨a', c', he, ho, hb⟩ => ⟨a', c', he, ho.ints, hb⟩
  have HEQ : Hid (∀ (l l' : List Nat) (a b : Option Addr) (c d : Nat) (W' : World), l.length ≤ 1000 → IntsAt W' a (srt (psg l)) → IntsAt W' b (srt (psg l')) → Calls Try.prog 74 #[.slice a l.length c, .slice b l'.length d] W' (fun e w' => e = .returned (.bool (decide (srt (psg l) = srt (psg l')))) ∧ Below W'.heap.size W' w')) := Lib.hid fun l l' a b c d W' hle i1 i2 => by
    have h := sEq_any (srt (psg l)) (srt (psg l')) a b c d W' (by rw [srt_len, psg_len]; omega) i1 i2
    rw [srt_len, psg_len, srt_len, psg_len] at h
    exact h.mono fun e w' ⟨he, m, hm⟩ => ⟨he, hm ▸ below_drewNN (Below.refl _ _) m⟩
  have Hrz := Lib.hid (rev_zero hv)
  have Hrm := Lib.hid (rev_more hv)
  have Hvx := Lib.hid hvx
  have Hv := Lib.hid hv
  have HlX := Lib.hid lX1
  have hS14 := hl.1
  have hfw := (strandsL_lists hv).few
  have HSM := Lib.hid (And.intro hS hM)
  clear hf hv hSl hMl hS hM hl h0 lR1 lR2 lX1 lX2 hvx
  go_enter Try.func19, Try.ntmps19
  go_wp2_with fail
  rw [← hW]
  clear hW
  refine (awake6_any W).mono ?_
  rintro e w1 ⟨rfl, hb1⟩
  have H1 := Lib.hid (H0.out.call hb1)
  clear hb1 H0
  have hc0_0 := H1.out.cell (k := 0) (i := 0) rfl rfl
  have hc0_1 := H1.out.cell (k := 0) (i := 1) rfl rfl
  have hc0_2 := H1.out.cell (k := 0) (i := 2) rfl rfl
  go_wp2_with fail
  refine (H42.out w1 H1.out.below).mono ?_
  rintro e w2 ⟨rfl, hb2⟩
  have H2 := Lib.hid (H1.out.call hb2)
  clear hb2 H1
  clear hc0_0 hc0_1 hc0_2
  have hc0_0 := H2.out.cell (k := 0) (i := 0) rfl rfl
  have hc0_1 := H2.out.cell (k := 0) (i := 1) rfl rfl
  have hc0_2 := H2.out.cell (k := 0) (i := 2) rfl rfl
  go_wp2_with fail
  refine (H39.out w2 H2.out.below).mono ?_
  rintro e w3 ⟨rfl, hb3⟩
  have H3 := Lib.hid (H2.out.call hb3)
  clear hb3 H2
  clear hc0_0 hc0_1 hc0_2
  have hc0_0 := H3.out.cell (k := 0) (i := 0) rfl rfl
  have hc0_1 := H3.out.cell (k := 0) (i := 1) rfl rfl
  have hc0_2 := H3.out.cell (k := 0) (i := 2) rfl rfl
  go_wp2_with fail
  refine (H45.out w3 H3.out.below).mono ?_
  rintro e w4 ⟨aR, bR, cR, dR, rfl, hiR, hjR, hb4⟩
  have H4 := Lib.hid (H3.out.call hb4)
  clear hb4 H3 hc0_0 hc0_1 hc0_2
  go_upto_region 4 with fail
  obtain ⟨v, hv⟩ : ∃ x, x = w4.alloc (.cells #[.slice aR S.length cR, .slice bR M.length dR, .int .i64 L] 24) := ⟨_, rfl⟩
  rw [← hv]
  have h5 : HH w v [(w.heap.size, rowO 24 [.slice aS S.length cS, .slice aM M.length cM, .int .i64 L]), (w4.heap.size, rowO 24 [.slice aR S.length cR, .slice bR M.length dR, .int .i64 L])] [] := by
    rw [hv]; exact H4.out.alloc #[.slice aR S.length cR, .slice bR M.length dR, .int .i64 L] 24 rfl rfl
  have hb45 : Below w4.heap.size w4 v := by rw [hv]; exact (Below.refl _ _).alloc (Nat.le_refl _) _
  have HIR : Hid (∀ W', Below v.heap.size v W' → IntsAt W' aR (mulS S fun _ => 1) ∧ IntsAt W' bR (mvL (trn fun _ => 2) M)) := Lib.hid fun W' h => ⟨(hiR.later hb45).later h, (hjR.later hb45).later h⟩
  have H5 := Lib.hid h5
  generalize w4.heap.size = qR at *
  clear hv h5 hb45 hiR hjR H4
  have hc0 := H5.out.cell (k := 0) (i := 0) rfl rfl
  have hc1 := H5.out.cell (k := 0) (i := 1) rfl rfl
  have hc2 := H5.out.cell (k := 0) (i := 2) rfl rfl
  go_upto_region 6 with fail
  obtain ⟨u, hu⟩ : ∃ x, x = v.alloc (.cells #[.slice aS S.length cS, .slice aM M.length cM, .int .i64 L] 24) := ⟨_, rfl⟩
  rw [← hu]
  have h6 : HH w u [(w.heap.size, rowO 24 [.slice aS S.length cS, .slice aM M.length cM, .int .i64 L]), (qR, rowO 24 [.slice aR S.length cR, .slice bR M.length dR, .int .i64 L]), (v.heap.size, rowO 24 [.slice aS S.length cS, .slice aM M.length cM, .int .i64 L])] [] := by
    rw [hu]; exact H5.out.alloc #[.slice aS S.length cS, .slice aM M.length cM, .int .i64 L] 24 rfl rfl
  have Hb6 : Hid (Below v.heap.size v u) := Lib.hid (by rw [hu]; exact (Below.refl _ _).alloc (Nat.le_refl _) _)
  have H6 := Lib.hid h6
  obtain ⟨qX, hqX⟩ : ∃ x, x = v.heap.size := ⟨_, rfl⟩
  rw [← hqX] at H6
  rw [← hqX]
  have HqX : Hid (v.heap.size ≤ qX) := Lib.hid (by rw [hqX]; exact Nat.le_refl _)
  clear hu h6 hqX H5 hc0 hc1 hc2
  have hc0 := H6.out.cell (k := 0) (i := 0) rfl rfl
  have hc1 := H6.out.cell (k := 0) (i := 1) rfl rfl
  have hc2 := H6.out.cell (k := 0) (i := 2) rfl rfl
  go_wp2_with fail
  refine (H54.out u H6.out.below).mono ?_
  rintro e w7 ⟨A, cA, rfl, hb7, hR⟩
  have H7 := Lib.hid (H6.out.call hb7)
  have HR := Lib.hid hR
  have Hb7 := Lib.hid (below_of Hb6.out hb7 Hb6.out.size)
  clear hb7 hR H6 Hb6 hc0 hc1 hc2
  go_wp2_with fail
  go_loopg [8, 9, 10, 11, 34] (strandsL S M L).length (fun g _ _ _ _ t wr => ∃ (i : Nat) (aX bX : Option Addr) (cX dX : Nat), i ≤ (strandsL S M L).length ∧ g = (strandsL S M L).length - i ∧ t = .int .i64 i ∧ Below v.heap.size v wr ∧ (IntsAt wr aX (rvS S M (bl i)) ∧ IntsAt wr bX (rvM S M (bl i))) ∧ OwnRows wr u.heap.size A cA ((strandsL S M L).map nats) ∧ HH w wr [(w.heap.size, rowO 24 [.slice aS S.length cS, .slice aM M.length cM, .int .i64 L]), (qR, rowO 24 [.slice aR S.length cR, .slice bR M.length dR, .int .i64 L]), (qX, rowO 24 [.slice aX S.length cX, .slice bX M.length dX, .int .i64 L])] [])
  case atStart =>
    refine ⟨0, aS, aM, cS, cM, Nat.zero_le _, rfl, rfl, Hb7.out, ⟨by rw [Hrz.out.1]; exact H7.out.came HSM.out.1, by rw [Hrz.out.2]; exact H7.out.came HSM.out.2⟩, HR.out, H7.out⟩
  case round =>
    clear H7 Hb7 HR
    obtain ⟨i, aX, bX, cX, dX, hi, rfl, rfl, hb, hxs, hro, hh⟩ := hrel
    have Hb := Lib.hid hb
    have Hxs := Lib.hid hxs
    have Hro := Lib.hid hro
    have Hh := Lib.hid hh
    clear hb hxs hro hh
    by_cases hil : i < (strandsL S M L).length
    · obtain ⟨l, hl⟩ : ∃ l, (strandsL S M L)[i]? = some l := ⟨_, List.getElem?_eq_getElem hil⟩
      obtain ⟨bA, oA, rfl, _, hbA, hF⟩ := Hro.out.open (by rw [List.length_map]; omega)
      obtain ⟨aL, cL, hcL, hoL⟩ := hF i (nats l) (by rw [List.getElem?_map, hl]; rfl)
      rw [nats_length] at hcL
      have HL := Lib.hid hoL.ints
      obtain ⟨j, hj, hsame, hm1, hm2⟩ := Hrm.out i hil
      have Hsame := Lib.hid hsame
      have Hm := Lib.hid (And.intro hm1 hm2)
      have Hl := Lib.hid hl
      have HC := Lib.hid (HSX.out i aX bX cX dX wr Hxs.out.1 Hxs.out.2)
      have hd0 := Hh.out.cell (k := 2) (i := 0) rfl rfl
      have hd1 := Hh.out.cell (k := 2) (i := 1) rfl rfl
      have hd2 := Hh.out.cell (k := 2) (i := 2) rfl rfl
      clear hF hoL hsame hm1 hm2 hl
      go_wp2_with fail
      refine HC.out.mono ?_
      rintro e wq ⟨B, cB, rfl, hbq, hRq⟩
      have Hq := Lib.hid (Hh.out.call hbq)
      have HRq := Lib.hid hRq
      have Hxq := Lib.hid (And.intro (Hxs.out.1.later hbq) (Hxs.out.2.later hbq))
      have HLq := Lib.hid (HL.out.later hbq)
      have Hroq := Lib.hid (Hro.out.later hbq (Nat.le_refl _))
      have Hbq := Lib.hid (below_of Hb.out hbq Hb.out.size)
      clear hbq hRq HC hd0 hd1 hd2 Hh Hxs HL Hro Hb hcL hbA
      have hfx := (strandsL_lists (Hvx.out i)).few
      rw [HlX.out i] at hfx
      obtain ⟨lx, hlx⟩ : ∃ x, x = strandsL (rvS S M (bl i)) (rvM S M (bl i)) L := ⟨_, rfl⟩
      rw [← hlx] at HRq hj hfx
      rw [← hlx]
      have Hlx := Lib.hid hlx
      clear hlx
      go_wp2_with fail
      go_loopg [9, 10, 11, 41] lx.length (fun g _ _ _ t wi => ∃ j' : Nat, j' ≤ j ∧ g = lx.length - j' ∧ t = .int .i64 j' ∧ Below wq.heap.size wq wi)
      case atStart => exact ⟨0, Nat.zero_le _, rfl, rfl, Below.refl _ _⟩
      case round =>
        obtain ⟨j', hj', rfl, rfl, hbi⟩ := hrel
        have Hbi := Lib.hid hbi
        clear hbi
        have hjl : j' < lx.length := by omega
        obtain ⟨l', hl'⟩ : ∃ l', lx[j']? = some l' := ⟨_, List.getElem?_eq_getElem hjl⟩
        obtain ⟨bB, oB, rfl, _, _, hG⟩ := (HRq.out.later Hbi.out (Nat.le_refl _)).open (by rw [List.length_map]; omega)
        obtain ⟨aT, cT, hcT, hoT⟩ := hG j' (nats l') (by rw [List.getElem?_map, hl']; rfl)
        rw [nats_length] at hcT
        have HT := Lib.hid hoT.ints
        rw [Hlx.out] at hl'
        have Hl' := Lib.hid hl'
        clear hG hoT hl'
        go_wp2_with fail
        refine (HPS.out S M i l aL cL wr Hv.out hS14 Hl.out (HLq.out.later Hbi.out)).mono ?_
        rintro e w1 ⟨a1, c1, rfl, h1, hb1⟩
        have Hb1 := Lib.hid (below_of Hbi.out hb1 Hbi.out.size)
        have HP1 := Lib.hid h1
        have HT1 := Lib.hid (HT.out.later hb1)
        clear h1 hb1 hcT HT
        go_wp2_with fail
        refine (HPS.out _ _ j' l' aT cT w1 (Hvx.out i) (by rw [HlX.out]; exact hS14) Hl'.out HT1.out).mono ?_
        rintro e w2 ⟨a2, c2, rfl, h2, hb2⟩
        have Hb2 := Lib.hid (below_of Hb1.out hb2 Hb1.out.size)
        have HP2 := Lib.hid h2
        have HP12 := Lib.hid (HP1.out.later hb2)
        clear h2 hb2 HT1 HP1 Hb1
        go_wp2_with fail
        refine (HEQ.out l l' a1 a2 c1 c2 w2 (by have := (strandsL_lists Hv.out).len i l Hl.out; omega) HP12.out HP2.out).mono ?_
        rintro e w8 ⟨rfl, hb8⟩
        have Hb8 := Lib.hid (below_of Hb2.out hb8 Hb2.out.size)
        clear hb8 Hb2 HP12 HP2
        by_cases hjj : j' = j
        · have hdt : decide (srt (psg l) = srt (psg l')) = true := decide_eq_true ((Hsame.out j' l l' Hl.out Hl'.out).2 hjj)
          rw [hdt]
          clear hdt
          subst hjj
          have H8 := Lib.hid (Hq.out.call Hb8.out)
          have Hx8 := Lib.hid (And.intro (Hxq.out.1.later Hb8.out) (Hxq.out.2.later Hb8.out))
          have Hro8 := Lib.hid (Hroq.out.later Hb8.out (Nat.le_refl _))
          have HC := Lib.hid (HRO.out i j' aX bX cX dX w8 (by rw [← Hlx.out]; exact hjl) Hm.out.1 Hm.out.2 Hx8.out.1 Hx8.out.2)
          have hd0 := H8.out.cell (k := 2) (i := 0) rfl rfl
          have hd1 := H8.out.cell (k := 2) (i := 1) rfl rfl
          have hd2 := H8.out.cell (k := 2) (i := 2) rfl rfl
          go_wp2_with fail
          refine HC.out.mono ?_
          rintro e w9 ⟨bS, bM, rfl, hi9, hj9, hb9⟩
          have H9 := Lib.hid (H8.out.call hb9)
          have HI9 := Lib.hid (And.intro hi9 hj9)
          have Hro9 := Lib.hid (Hro8.out.later hb9 (Nat.le_refl _))
          have Hb9 := Lib.hid (below_of (below_of Hbq.out Hb8.out Hbq.out.size) hb9 (below_of Hbq.out Hb8.out Hbq.out.size).size)
          clear hb9 hi9 hj9 H8 Hx8 Hro8 HC hd0 hd1 hd2
          have hd0 := H9.out.cell (k := 2) (i := 0) rfl rfl
          have hd1 := H9.out.cell (k := 2) (i := 1) rfl rfl
          have hd2 := H9.out.cell (k := 2) (i := 2) rfl rfl
          have hf0 := H9.out.frozen (k := 2) rfl 0
          have hf1 := H9.out.frozen (k := 2) rfl 1
          have hf2 := H9.out.frozen (k := 2) rfl 2
          go_wp2_with fail
          have hrw := H9.out.row (k := 2) rfl
          have n1 := row_ne9 HI9.out.1 hrw (by decide)
          have n2 := row_ne9 HI9.out.2 hrw (by decide)
          go_roundg ((strandsL S M L).length - (i + 1))
          case measure => omega
          case rel => exact ⟨i + 1, some ⟨bS, 0, none⟩, some ⟨bM, 0, none⟩, S.length, M.length, hil, rfl, by go_num, ((Hb9.out.setCell HqX.out _).setCell HqX.out _).setCell HqX.out _, ⟨(((HI9.out.1.setOther _ _ n1).setOther _ _ n1).setOther _ _ n1).at, (((HI9.out.2.setOther _ _ n2).setOther _ _ n2).setOther _ _ n2).at⟩, ((Hro9.out.setOther hrw (by decide) (by decide) 0 _).setOther (hrw.set 0 _) (by decide) (by decide) 1 _).setOther ((hrw.set 0 _).set 1 _) (by decide) (by decide) 2 _, ((H9.out.set (k := 2) rfl 0 _).set (k := 2) rfl 1 _).set (k := 2) rfl 2 _⟩
        · have hdt : decide (srt (psg l) = srt (psg l')) = false := decide_eq_false fun e => hjj ((Hsame.out j' l l' Hl.out Hl'.out).1 e)
          rw [hdt]
          clear hdt
          go_wp2_with fail
          go_roundg (lx.length - (j' + 1))
          case measure => omega
          case rel => exact ⟨j' + 1, by omega, rfl, by go_num, Hb8.out⟩
    · obtain rfl : i = (strandsL S M L).length := by omega
      have HC := Lib.hid (H53.out aX bX aR bR cX dX cR dR wr Hxs.out.1 Hxs.out.2 (HIR.out wr Hb.out).1 (HIR.out wr Hb.out).2)
      have hc0 := Hh.out.cell (k := 1) (i := 0) rfl rfl
      have hc1 := Hh.out.cell (k := 1) (i := 1) rfl rfl
      have hc2 := Hh.out.cell (k := 1) (i := 2) rfl rfl
      have hd0 := Hh.out.cell (k := 2) (i := 0) rfl rfl
      have hd1 := Hh.out.cell (k := 2) (i := 1) rfl rfl
      have hd2 := Hh.out.cell (k := 2) (i := 2) rfl rfl
      go_wp2_with fail
      refine HC.out.mono ?_
      rintro e w9 ⟨rfl, hb9⟩
      have Hbf := Lib.hid (Hh.out.call hb9)
      clear hb9
      go_wp2_with fail
      go_ret
      exact ⟨rfl, Hbf.out.below⟩
theorem mrv_any (S M : List Int) (L : Int) (aS aM : Option Addr) (cS cM : Nat) (w : World) (hSl : S.length ≤ maxLen) (hMl : M.length ≤ maxLen) (_ : (Lit.int .i64 L).wf = true) (hS : IntsAt w aS S) (hM : IntsAt w aM M) :
    Calls Try.prog 19 #[.agg #[.slice aS S.length cS, .slice aM M.length cM, .int .i64 L]] w fun e w' => e = .returned (.bool true) ∧ Below w.heap.size w w' := by
  by_cases hf : few6B S M = true
  · by_cases hv : vldB S M L = true
    · exact mrv_yes S M L aS aM cS cM w hf hv hS hM
    · exact mrv_no S M L aS aM cS cM w hf (by simpa using hv) hS hM
  · exact mrv_large S M L aS aM cS cM w hSl hMl (by simpa using hf)
end Go.Proofs.Ytkopbcehfbmnmaa
