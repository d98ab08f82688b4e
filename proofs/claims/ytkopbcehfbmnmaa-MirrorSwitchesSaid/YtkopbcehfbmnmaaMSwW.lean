/- The walk of the law MirrorSwitches. -/
import Derived.Test.YtkopbcehfbmnmaaAwake6
import Derived.Test.YtkopbcehfbmnmaaMirB
import Derived.Test.YtkopbcehfbmnmaaSwitchW
namespace Go.Proofs.Ytkopbcehfbmnmaa
open Go Go.RowKit
theorem row_ne {w : World} {b b' : Nat} {E E' : TypeId} {vs vs' : List Value} (h : Row w b E vs) (h' : Row w b' E' vs') (hE : E ≠ E') : b ≠ b' := fun e => by
  rw [e] at h
  unfold Row at h h'
  rw [h] at h'
  simp only [Option.some.injEq, Obj.cells.injEq] at h'
  exact hE h'.2.1
set_option maxRecDepth 100000 in
set_option maxHeartbeats 16000000 in
theorem msw_large (S M : List Int) (L : Int) (aS aM : Option Addr) (cS cM : Nat) (k : Int) (w : World) (hSl : S.length ≤ maxLen) (hMl : M.length ≤ maxLen) (hf : few6B S M = false) :
    Calls Try.prog 7 #[.agg #[.slice aS S.length cS, .slice aM M.length cM, .int .i64 L], .int .u8 k] w fun e w' => e = .returned (.bool true) ∧ Below w.heap.size w w' := by
  obtain ⟨W, hW⟩ : ∃ W, W = (w.alloc (.cells #[.slice aS S.length cS, .slice aM M.length cM, .int .i64 L] 24)) := ⟨_, rfl⟩
  have h0 : HH w W [(w.heap.size, rowO 24 [.slice aS S.length cS, .slice aM M.length cM, .int .i64 L])] [] := by rw [hW]; exact ((HH.start w).alloc #[.slice aS S.length cS, .slice aM M.length cM, .int .i64 L] 24 rfl rfl)
  have H0 := Lib.hid h0
  have HF : Hid (∀ W', Calls Try.prog 42 #[.agg #[.slice aS S.length cS, .slice aM M.length cM, .int .i64 L]] W' fun e w' => e = .returned (.bool false) ∧ Below W'.heap.size W' w') := Lib.hid fun W' => by rw [← hf]; exact few6_any S M L aS aM cS cM W' hSl hMl
  clear hf hSl hMl h0
  go_enter Try.func7, Try.ntmps7
  go_wp2_with fail
  rw [← hW]
  clear hW
  refine (awake6_any W).mono ?_
  rintro e w1 ⟨rfl, hb1⟩
  have H1 := Lib.hid (H0.out.call hb1)
  clear hb1 H0
  have hc0_0 := H1.out.cell (k := 0) (i := 0) rfl rfl
  have hc0_1 := H1.out.cell (k := 0) (i := 1) rfl rfl
  have hc0_2 := H1.out.cell (k := 0) (i := 2) rfl rfl
  go_wp2_with fail
  refine (HF.out w1).mono ?_
  rintro e w2 ⟨rfl, hb2⟩
  have H2 := Lib.hid (H1.out.call hb2)
  clear hb2 H1
  clear hc0_0 hc0_1 hc0_2
  have hc0_0 := H2.out.cell (k := 0) (i := 0) rfl rfl
  have hc0_1 := H2.out.cell (k := 0) (i := 1) rfl rfl
  have hc0_2 := H2.out.cell (k := 0) (i := 2) rfl rfl
  go_wp2_with fail
  refine (awake6_any w2).mono ?_
  rintro e w3 ⟨rfl, hb3⟩
  have H3 := Lib.hid (H2.out.call hb3)
  clear hb3 H2
  clear hc0_0 hc0_1 hc0_2
  have hc0_0 := H3.out.cell (k := 0) (i := 0) rfl rfl
  have hc0_1 := H3.out.cell (k := 0) (i := 1) rfl rfl
  have hc0_2 := H3.out.cell (k := 0) (i := 2) rfl rfl
  go_wp2_with fail
  go_ret
  exact ⟨rfl, H3.out.below⟩
set_option maxRecDepth 100000 in
set_option maxHeartbeats 16000000 in
theorem msw_no (S M : List Int) (L : Int) (aS aM : Option Addr) (cS cM : Nat) (k : Int) (w : World) (hf : few6B S M = true) (hv : vldB S M L = false) (hS : IntsAt w aS S) (hM : IntsAt w aM M) :
    Calls Try.prog 7 #[.agg #[.slice aS S.length cS, .slice aM M.length cM, .int .i64 L], .int .u8 k] w fun e w' => e = .returned (.bool true) ∧ Below w.heap.size w w' := by
  have hl : S.length ≤ 14 ∧ M.length ≤ 70 := by
    have := of_decide_eq_true hf
    exact ⟨this.1, this.2⟩
  have hSl : S.length ≤ 1000000000 := by omega
  have hMl : M.length ≤ 1000000000 := by omega
  obtain ⟨W, hW⟩ : ∃ W, W = (w.alloc (.cells #[.slice aS S.length cS, .slice aM M.length cM, .int .i64 L] 24)) := ⟨_, rfl⟩
  have h0 : HH w W [(w.heap.size, rowO 24 [.slice aS S.length cS, .slice aM M.length cM, .int .i64 L])] [] := by rw [hW]; exact ((HH.start w).alloc #[.slice aS S.length cS, .slice aM M.length cM, .int .i64 L] 24 rfl rfl)
  have H0 := Lib.hid h0
  have H42 : Hid (∀ W', Below w.heap.size w W' → Calls Try.prog 42 #[.agg #[.slice aS S.length cS, .slice aM M.length cM, .int .i64 L]] W' fun e w' => e = .returned (.bool true) ∧ Below W'.heap.size W' w') := Lib.hid fun W' hW' => by rw [← hf]; exact few6_any S M L aS aM cS cM W' (by unfold maxLen; omega) (by unfold maxLen; omega)
  have H39 : Hid (∀ W', Below w.heap.size w W' → Calls Try.prog 39 #[.agg #[.slice aS S.length cS, .slice aM M.length cM, .int .i64 L]] W' fun e w' => e = .returned (.bool false) ∧ Below W'.heap.size W' w') := Lib.hid fun W' hW' => by rw [← hv]; exact valid_any S M L aS aM cS cM W' hSl hMl (hS.later hW') (hM.later hW')
  clear hf hv hSl hMl hS hM hl h0
  go_enter Try.func7, Try.ntmps7
  go_wp2_with fail
  rw [← hW]
  clear hW
  refine (awake6_any W).mono ?_
  rintro e w1 ⟨rfl, hb1⟩
  have H1 := Lib.hid (H0.out.call hb1)
  clear hb1 H0
  have hc0_0 := H1.out.cell (k := 0) (i := 0) rfl rfl
  have hc0_1 := H1.out.cell (k := 0) (i := 1) rfl rfl
  have hc0_2 := H1.out.cell (k := 0) (i := 2) rfl rfl
  go_wp2_with fail
  refine (H42.out w1 H1.out.below).mono ?_
  rintro e w2 ⟨rfl, hb2⟩
  have H2 := Lib.hid (H1.out.call hb2)
  clear hb2 H1
  clear hc0_0 hc0_1 hc0_2
  have hc0_0 := H2.out.cell (k := 0) (i := 0) rfl rfl
  have hc0_1 := H2.out.cell (k := 0) (i := 1) rfl rfl
  have hc0_2 := H2.out.cell (k := 0) (i := 2) rfl rfl
  go_wp2_with fail
  refine (H39.out w2 H2.out.below).mono ?_
  rintro e w3 ⟨rfl, hb3⟩
  have H3 := Lib.hid (H2.out.call hb3)
  clear hb3 H2
  clear hc0_0 hc0_1 hc0_2
  have hc0_0 := H3.out.cell (k := 0) (i := 0) rfl rfl
  have hc0_1 := H3.out.cell (k := 0) (i := 1) rfl rfl
  have hc0_2 := H3.out.cell (k := 0) (i := 2) rfl rfl
  go_wp2_with fail
  refine (awake6_any w3).mono ?_
  rintro e w4 ⟨rfl, hb4⟩
  have H4 := Lib.hid (H3.out.call hb4)
  clear hb4 H3
  clear hc0_0 hc0_1 hc0_2
  have hc0_0 := H4.out.cell (k := 0) (i := 0) rfl rfl
  have hc0_1 := H4.out.cell (k := 0) (i := 1) rfl rfl
  have hc0_2 := H4.out.cell (k := 0) (i := 2) rfl rfl
  go_wp2_with fail
  go_ret
  exact ⟨rfl, H4.out.below⟩
set_option maxRecDepth 100000 in
set_option maxHeartbeats 16000000 in
theorem msw_yes (S M : List Int) (L : Int) (aS aM : Option Addr) (cS cM : Nat) (f : Nat) (w : World) (hf : few6B S M = true) (hv : vldB S M L = true) (hk1 : f ≤ 255) (hS : IntsAt w aS S) (hM : IntsAt w aM M) :
    Calls Try.prog 7 #[.agg #[.slice aS S.length cS, .slice aM M.length cM, .int .i64 L], .int .u8 (f : Int)] w fun e w' => e = .returned (.bool true) ∧ Below w.heap.size w w' := by
  have hl : S.length ≤ 14 ∧ M.length ≤ 70 := by
    have := of_decide_eq_true hf
    exact ⟨this.1, this.2⟩
  have hSl : S.length ≤ 1000000000 := by omega
  have hMl : M.length ≤ 1000000000 := by omega
  have hlA : (mulS S (swS fun _ => true)).length = S.length := mulS_len _ _
  have hlB : (mvL (trn (swB S fun _ => true)) M).length = M.length := mvL_len _ _
  have HneA : Hid (∀ i, i < S.length → nth (mulS S (swS fun _ => true)) i = -(nth S i)) := Lib.hid fun i hi => by
    rw [nth_mulS _ _ _ hi]; unfold swS; rw [if_pos rfl]; omega
  have Hsb := Lib.hid (vldB_shape hv).signBd
  have HeqA : Hid (mulS S (swS fun _ => true) = (mulS S (swS (turnS S.length f S.length))) ∧ mvL (trn (swB S fun _ => true)) M = (mvL (trn (swB S (turnS S.length f S.length))) M)) := Lib.hid (by
    have := sw_all hv (turnS S.length f S.length) (turnS_all S.length f)
    exact ⟨this.1.symm, this.2.symm⟩)
  have H0e : Hid (S = (mulS S (swS (turnS S.length f 0))) ∧ M = (mvL (trn (swB S (turnS S.length f 0))) M)) := Lib.hid (by
    rw [turnS_zero]; have := sw_none hv; exact ⟨this.1.symm, this.2.symm⟩)
  obtain ⟨SA, hSA⟩ : ∃ x, x = mulS S (swS fun _ => true) := ⟨_, rfl⟩
  obtain ⟨MA, hMA⟩ : ∃ x, x = mvL (trn (swB S fun _ => true)) M := ⟨_, rfl⟩
  rw [← hSA] at hlA HneA HeqA
  rw [← hMA] at hlB HeqA
  obtain ⟨W, hW⟩ : ∃ W, W = (w.alloc (.cells #[.slice aS S.length cS, .slice aM M.length cM, .int .i64 L] 24)) := ⟨_, rfl⟩
  have h0 : HH w W [(w.heap.size, rowO 24 [.slice aS S.length cS, .slice aM M.length cM, .int .i64 L])] [] := by rw [hW]; exact ((HH.start w).alloc #[.slice aS S.length cS, .slice aM M.length cM, .int .i64 L] 24 rfl rfl)
  have H0 := Lib.hid h0
  have H42 : Hid (∀ W', Below w.heap.size w W' → Calls Try.prog 42 #[.agg #[.slice aS S.length cS, .slice aM M.length cM, .int .i64 L]] W' fun e w' => e = .returned (.bool true) ∧ Below W'.heap.size W' w') := Lib.hid fun W' hW' => by rw [← hf]; exact few6_any S M L aS aM cS cM W' (by unfold maxLen; omega) (by unfold maxLen; omega)
  have H39 : Hid (∀ W', Below w.heap.size w W' → Calls Try.prog 39 #[.agg #[.slice aS S.length cS, .slice aM M.length cM, .int .i64 L]] W' fun e w' => e = .returned (.bool true) ∧ Below W'.heap.size W' w') := Lib.hid fun W' hW' => by rw [← hv]; exact valid_any S M L aS aM cS cM W' hSl hMl (hS.later hW') (hM.later hW')
  have H43 : Hid (∀ W', Below w.heap.size w W' → Calls Try.prog 43 #[.agg #[.slice aS S.length cS, .slice aM M.length cM, .int .i64 L]] W' fun e w' => ∃ (a b : Option Addr) (c d : Nat), e = .returned (.tuple #[.agg #[.slice a S.length c, .slice b M.length d, .int .i64 L], .int .i64 0]) ∧ IntsAt w' a SA ∧ IntsAt w' b MA ∧ Below W'.heap.size W' w') := Lib.hid fun W' hW' => by
    have h := mirrorF_yes S M L aS aM cS cM W' hv (hS.later hW') (hM.later hW')
    rw [← hSA, ← hMA] at h
    refine h.mono ?_
    rintro e w' ⟨a, b, c, d, he, h1, h2, h3⟩
    rw [hlA, hlB] at he
    exact ⟨a, b, c, d, he, h1, h2, h3⟩
  have H52 : Hid (∀ (i : Nat) (a b : Option Addr) (c d : Nat) (W' : World), i < S.length → IntsAt W' a (mulS S (swS (turnS S.length f i))) → IntsAt W' b (mvL (trn (swB S (turnS S.length f i))) M) → Calls Try.prog 52 #[.agg #[.slice a S.length c, .slice b M.length d, .int .i64 L], .int .i64 (((i + f) % S.length : Nat) : Int)] W' fun e w' => ∃ (bS bM : Nat), e = .returned (.tuple #[.agg #[.slice (some ⟨bS, 0, none⟩) S.length S.length, .slice (some ⟨bM, 0, none⟩) M.length M.length, .int .i64 L], .int .i64 0]) ∧ Row w' bS 3 (ints (mulS S (swS (turnS S.length f (i + 1))))) ∧ Row w' bM 3 (ints (mvL (trn (swB S (turnS S.length f (i + 1)))) M)) ∧ Below W'.heap.size W' w') := Lib.hid fun i a b c d W' hi i1 i2 => by
    have hvi := ex_valid hv (turnS S.length f i)
    have hm := sw_more hv (turnS S.length f i) ((i + f) % S.length) (turnS_new S.length f i hi)
    have h := switch_row (mulS S (swS (turnS S.length f i))) (mvL (trn (swB S (turnS S.length f i))) M) L a b c d ((i + f) % S.length) W' hvi (by rw [mulS_len]; exact Nat.mod_lt _ (by omega)) i1 i2
    rw [hm.1, hm.2, mulS_len, mvL_len] at h
    refine h.mono ?_
    rintro e w' ⟨bS, bM, he, h1, h2, h3⟩
    rw [← turnS_succ] at h1 h2
    exact ⟨bS, bM, he, h1, h2, h3⟩
  have H53 : Hid (∀ (a b a' b' : Option Addr) (c d c' d' : Nat) (W' : World), IntsAt W' a SA → IntsAt W' b MA → IntsAt W' a' (mulS S (swS (turnS S.length f S.length))) → IntsAt W' b' (mvL (trn (swB S (turnS S.length f S.length))) M) → Calls Try.prog 53 #[.agg #[.slice a S.length c, .slice b M.length d, .int .i64 L], .agg #[.slice a' S.length c', .slice b' M.length d', .int .i64 L]] W' fun e w' => e = .returned (.bool true) ∧ Below W'.heap.size W' w') := Lib.hid fun a b a' b' c d c' d' W' i1 i2 i3 i4 => by
    rw [← HeqA.out.1] at i3
    rw [← HeqA.out.2] at i4
    have h := equalD_any SA MA SA MA L L a b a' b' c d c' d' W' (by rw [hlA]; exact hSl) (by rw [hlB]; exact hMl) i1 i2 i3 i4
    rw [show eqD SA MA L SA MA L = true from decide_eq_true ⟨rfl, rfl, rfl⟩, hlA, hlB] at h
    exact h
  have HSM := Lib.hid (And.intro hS hM)
  have hS64 : S.length ≤ 64 := by omega
  have hM64 : M.length ≤ 70 := by omega
  have HlA := Lib.hid hlA
  clear hf hv hSl hMl hS hM hl h0 hlA hlB hSA hMA
  go_enter Try.func7, Try.ntmps7
  go_wp2_with fail
  rw [← hW]
  clear hW
  refine (awake6_any W).mono ?_
  rintro e w1 ⟨rfl, hb1⟩
  have H1 := Lib.hid (H0.out.call hb1)
  clear hb1 H0
  have hc0_0 := H1.out.cell (k := 0) (i := 0) rfl rfl
  have hc0_1 := H1.out.cell (k := 0) (i := 1) rfl rfl
  have hc0_2 := H1.out.cell (k := 0) (i := 2) rfl rfl
  go_wp2_with fail
  refine (H42.out w1 H1.out.below).mono ?_
  rintro e w2 ⟨rfl, hb2⟩
  have H2 := Lib.hid (H1.out.call hb2)
  clear hb2 H1
  clear hc0_0 hc0_1 hc0_2
  have hc0_0 := H2.out.cell (k := 0) (i := 0) rfl rfl
  have hc0_1 := H2.out.cell (k := 0) (i := 1) rfl rfl
  have hc0_2 := H2.out.cell (k := 0) (i := 2) rfl rfl
  go_wp2_with fail
  refine (H39.out w2 H2.out.below).mono ?_
  rintro e w3 ⟨rfl, hb3⟩
  have H3 := Lib.hid (H2.out.call hb3)
  clear hb3 H2
  clear hc0_0 hc0_1 hc0_2
  have hc0_0 := H3.out.cell (k := 0) (i := 0) rfl rfl
  have hc0_1 := H3.out.cell (k := 0) (i := 1) rfl rfl
  have hc0_2 := H3.out.cell (k := 0) (i := 2) rfl rfl
  go_wp2_with fail
  refine (H43.out w3 H3.out.below).mono ?_
  rintro e w4 ⟨aA, bA, cA, dA, rfl, hiA, hjA, hb4⟩
  have H4 := Lib.hid (H3.out.call hb4)
  clear hb4 H3 hc0_0 hc0_1 hc0_2
  go_upto_region 4 with fail
  obtain ⟨v, hv⟩ : ∃ x, x = w4.alloc (.cells #[.slice aA S.length cA, .slice bA M.length dA, .int .i64 L] 24) := ⟨_, rfl⟩
  rw [← hv]
  have h5 : HH w v [(w.heap.size, rowO 24 [.slice aS S.length cS, .slice aM M.length cM, .int .i64 L]), (w4.heap.size, rowO 24 [.slice aA S.length cA, .slice bA M.length dA, .int .i64 L])] [] := by
    rw [hv]; exact H4.out.alloc #[.slice aA S.length cA, .slice bA M.length dA, .int .i64 L] 24 rfl rfl
  have hb45 : Below w4.heap.size w4 v := by rw [hv]; exact (Below.refl _ _).alloc (Nat.le_refl _) _
  have HIA : Hid (∀ W', Below v.heap.size v W' → IntsAt W' aA SA ∧ IntsAt W' bA MA) := Lib.hid fun W' h => ⟨(hiA.later hb45).later h, (hjA.later hb45).later h⟩
  have H5 := Lib.hid h5
  generalize w4.heap.size = qA at *
  clear hv h5 hb45 hiA hjA H4
  have hc0_0 := H5.out.cell (k := 0) (i := 0) rfl rfl
  have hc0_1 := H5.out.cell (k := 0) (i := 1) rfl rfl
  have hc0_2 := H5.out.cell (k := 0) (i := 2) rfl rfl
  go_upto_region 5 with fail
  obtain ⟨u, hu⟩ : ∃ x, x = v.alloc (.cells #[.slice aS S.length cS, .slice aM M.length cM, .int .i64 L] 24) := ⟨_, rfl⟩
  rw [← hu]
  have h6 : HH w u [(w.heap.size, rowO 24 [.slice aS S.length cS, .slice aM M.length cM, .int .i64 L]), (qA, rowO 24 [.slice aA S.length cA, .slice bA M.length dA, .int .i64 L]), (v.heap.size, rowO 24 [.slice aS S.length cS, .slice aM M.length cM, .int .i64 L])] [] := by
    rw [hu]; exact H5.out.alloc #[.slice aS S.length cS, .slice aM M.length cM, .int .i64 L] 24 rfl rfl
  have Hb6 : Hid (Below v.heap.size v u) := Lib.hid (by rw [hu]; exact (Below.refl _ _).alloc (Nat.le_refl _) _)
  have H6 := Lib.hid h6
  have Hqx : Hid (v.heap.size ≤ v.heap.size) := Lib.hid (Nat.le_refl _)
  obtain ⟨qX, hqX⟩ : ∃ x, x = v.heap.size := ⟨_, rfl⟩
  rw [← hqX] at H6
  rw [← hqX]
  have HqX : Hid (v.heap.size ≤ qX) := Lib.hid (by rw [hqX]; exact Nat.le_refl _)
  clear hu h6 hqX H5 Hqx hc0_0 hc0_1 hc0_2
  have hc0_0 := H6.out.cell (k := 0) (i := 0) rfl rfl
  go_wp2_with fail
  clear hc0_0
  go_loopg [34] S.length (fun g t wr => ∃ (i : Nat) (aX bX : Option Addr) (cX dX : Nat), i ≤ S.length ∧ g = S.length - i ∧ t = .int .i64 i ∧ Below v.heap.size v wr ∧ IntsAt wr aX (mulS S (swS (turnS S.length f i))) ∧ IntsAt wr bX (mvL (trn (swB S (turnS S.length f i))) M) ∧ HH w wr [(w.heap.size, rowO 24 [.slice aS S.length cS, .slice aM M.length cM, .int .i64 L]), (qA, rowO 24 [.slice aA S.length cA, .slice bA M.length dA, .int .i64 L]), (qX, rowO 24 [.slice aX S.length cX, .slice bX M.length dX, .int .i64 L])] [])
  case atStart =>
    have i1 := H6.out.came HSM.out.1
    have i2 := H6.out.came HSM.out.2
    refine ⟨0, aS, aM, cS, cM, Nat.zero_le _, rfl, rfl, Hb6.out, ?_, ?_, H6.out⟩
    · rw [← H0e.out.1]; exact i1
    · rw [← H0e.out.2]; exact i2
  case round =>
    clear H6 Hb6
    obtain ⟨i, aX, bX, cX, dX, hi, rfl, rfl, hb, hiX, hjX, hh⟩ := hrel
    have Hb := Lib.hid hb
    have Hh := Lib.hid hh
    have HIX := Lib.hid (And.intro hiX hjX)
    clear hb hh hiX hjX
    by_cases hil : i < S.length
    · have hmd : (i + f) % S.length < S.length := Nat.mod_lt _ (by omega)
      have hmd2 : ((i : Int) + (f : Int)) % (S.length : Int) = (((i + f) % S.length : Nat) : Int) := by push_cast; rfl
      have hmd1 : ((i : Int) + (f : Int)).tmod (S.length : Int) = (((i + f) % S.length : Nat) : Int) := by
        rw [← hmd2]; exact Int.tmod_eq_emod_of_nonneg (by omega)
      have hwf : IntKind.i64.wrap (f : Int) = (f : Int) := by rw [IntKind.wrap_i64]; omega
      have hn0 : ¬ S.length = 0 := by omega
      have hn1 : decide (S.length = 0) = false := decide_eq_false hn0
      have hn2 : ((S.length : Int) == 0) = false := by rw [beq_eq_false_iff_ne]; omega
      have hwp : IntKind.i64.wrap ((i : Int) + (f : Int)) = (i : Int) + (f : Int) := by rw [IntKind.wrap_i64]; omega
      have HC := Lib.hid (H52.out i aX bX cX dX wr.drew hil (HIX.out.1.later (Below.refl _ _).drew) (HIX.out.2.later (Below.refl _ _).drew))
      have Hd := Lib.hid Hh.out.drew
      have hc0_0 := Hd.out.cell (k := 0) (i := 0) rfl rfl
      have hc2_0 := Hd.out.cell (k := 2) (i := 0) rfl rfl
      have hc2_1 := Hd.out.cell (k := 2) (i := 1) rfl rfl
      have hc2_2 := Hd.out.cell (k := 2) (i := 2) rfl rfl
      generalize (((i + f) % S.length : Nat) : Int) = md at *
      go_wp2_with fail
      go_region_with (with_reducible refine HC.out.mono ?_; rintro e w8 ⟨bS, bM, rfl, hi2, hj2, hb8⟩; have H8 := Lib.hid (Hd.out.call hb8); have hd0 := H8.out.cell (k := 2) (i := 0) rfl rfl; have hd1 := H8.out.cell (k := 2) (i := 1) rfl rfl; have hd2 := H8.out.cell (k := 2) (i := 2) rfl rfl; have hf0 := H8.out.frozen (k := 2) rfl 0; have hf1 := H8.out.frozen (k := 2) rfl 1; have hf2 := H8.out.frozen (k := 2) rfl 2; have Hb8 := Lib.hid hb8; have HI8 := Lib.hid (And.intro hi2 hj2); clear hb8 hi2 hj2 hc0_0 hc2_0 hc2_1 hc2_2)
      all_goals
        go_wp2_with fail
        have hne := row_ne HI8.out.1 (H8.out.row (k := 2) rfl) (by decide)
        have hne2 := row_ne HI8.out.2 (H8.out.row (k := 2) rfl) (by decide)
        have hbw := below_step (Below.refl _ _).drew Hb8.out
        have hbx := below_of Hb.out hbw Hb.out.size
        go_roundg (S.length - (i + 1))
        case measure => omega
        case rel => exact ⟨i + 1, some ⟨bS, 0, none⟩, some ⟨bM, 0, none⟩, S.length, M.length, hil, rfl, by go_num, ((hbx.setCell HqX.out _).setCell HqX.out _).setCell HqX.out _, (((HI8.out.1.setOther _ _ hne).setOther _ _ hne).setOther _ _ hne).at, (((HI8.out.2.setOther _ _ hne2).setOther _ _ hne2).setOther _ _ hne2).at, ((H8.out.set (k := 2) rfl 0 _).set (k := 2) rfl 1 _).set (k := 2) rfl 2 _⟩
    · obtain rfl : i = S.length := by omega
      have hc0_0 := Hh.out.cell (k := 0) (i := 0) rfl rfl
      go_wp2_with fail
      obtain ⟨w9, rfl⟩ : ∃ x, x = wr := ⟨_, rfl⟩
      go_loopg [56] S.length (fun g t wr => ∃ j : Nat, j ≤ S.length ∧ g = S.length - j ∧ t = .int .i64 j ∧ w9 = wr)
      case atStart => exact ⟨0, Nat.zero_le _, rfl, rfl, rfl⟩
      case round =>
        obtain ⟨j, hj, rfl, rfl, rfl⟩ := hrel
        by_cases hjl : j < S.length
        · obtain ⟨bA', oA, rfl, _, hcA⟩ := (HIA.out w9 Hb.out).1.open (by rw [HlA.out]; omega)
          obtain ⟨bS', oS, rfl, hbS', hcS⟩ := HSM.out.1.open (by omega)
          have hA := hcA j (by rw [HlA.out]; exact hjl)
          rw [HneA.out j hjl] at hA
          have hS' := (Hh.out.came HSM.out.1).open (by omega)
          obtain ⟨b9, o9, he9, _, hc9⟩ := hS'
          simp only [Option.some.injEq, Addr.mk.injEq, and_true] at he9
          obtain ⟨rfl, rfl⟩ := he9
          have hS9 := hc9 j hjl
          have hsb := Hsb.out j
          clear hcA hcS hc9
          generalize nth S j = x at *
          have hwx : IntKind.i64.wrap (-x) = -x := by rw [IntKind.wrap_i64]; omega
          have hk1_0 := Hh.out.cell (k := 1) (i := 0) rfl rfl
          have hjg : ¬ S.length ≤ j := by omega
          have hjd : decide (S.length ≤ j) = false := decide_eq_false hjg
          clear hsb
          go_wp2_with fail
          go_roundg (S.length - (j + 1))
          case measure => omega
          case rel => exact ⟨j + 1, by omega, rfl, by go_num, rfl⟩
        · obtain rfl : j = S.length := by omega
          have HC := Lib.hid (H53.out aA bA aX bX cA dA cX dX w9 (HIA.out w9 Hb.out).1 (HIA.out w9 Hb.out).2 HIX.out.1 HIX.out.2)
          have hc1_0 := Hh.out.cell (k := 1) (i := 0) rfl rfl
          have hc1_1 := Hh.out.cell (k := 1) (i := 1) rfl rfl
          have hc1_2 := Hh.out.cell (k := 1) (i := 2) rfl rfl
          have hc2_0 := Hh.out.cell (k := 2) (i := 0) rfl rfl
          have hc2_1 := Hh.out.cell (k := 2) (i := 1) rfl rfl
          have hc2_2 := Hh.out.cell (k := 2) (i := 2) rfl rfl
          go_wp2_with fail
          refine HC.out.mono ?_
          rintro e w10 ⟨rfl, hb10⟩
          have Hbf := Lib.hid (Hh.out.call hb10)
          clear hb10
          go_wp2_with fail
          go_ret
          exact ⟨rfl, Hbf.out.below⟩
theorem msw_any (S M : List Int) (L : Int) (aS aM : Option Addr) (cS cM : Nat) (k : Int) (w : World) (hSl : S.length ≤ maxLen) (hMl : M.length ≤ maxLen) (_ : (Lit.int .i64 L).wf = true) (hS : IntsAt w aS S) (hM : IntsAt w aM M) (hk : (Lit.int .u8 k).wf = true) :
    Calls Try.prog 7 #[.agg #[.slice aS S.length cS, .slice aM M.length cM, .int .i64 L], .int .u8 k] w fun e w' => e = .returned (.bool true) ∧ Below w.heap.size w w' := by
  by_cases hf : few6B S M = true
  · by_cases hv : vldB S M L = true
    · simp only [Lit.wf, Bool.and_eq_true, decide_eq_true_eq] at hk
      have e1 : IntKind.u8.min = 0 := rfl
      have e2 : IntKind.u8.max = 255 := rfl
      rw [e1, e2] at hk
      obtain ⟨f, rfl⟩ : ∃ f : Nat, k = (f : Int) := ⟨k.toNat, by omega⟩
      exact msw_yes S M L aS aM cS cM f w hf hv (by omega) hS hM
    · exact msw_no S M L aS aM cS cM k w hf (by simpa using hv) hS hM
  · exact msw_large S M L aS aM cS cM k w hSl hMl (by simpa using hf)
end Go.Proofs.Ytkopbcehfbmnmaa
