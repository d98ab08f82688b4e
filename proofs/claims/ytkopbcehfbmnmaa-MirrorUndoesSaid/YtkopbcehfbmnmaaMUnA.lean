/- The walk of the law MirrorUndoes, kinds below 4; kind 4 without a component. -/
import Derived.Test.YtkopbcehfbmnmaaAwake6
import Derived.Test.YtkopbcehfbmnmaaMCmW
import Derived.Test.YtkopbcehfbmnmaaOper4
import Derived.Test.YtkopbcehfbmnmaaMUnP
namespace Go.Proofs.Ytkopbcehfbmnmaa
open Go Go.RowKit
set_option maxRecDepth 100000 in
set_option maxHeartbeats 16000000 in
theorem mun_op (S M : List Int) (L : Int) (aS aM : Option Addr) (cS cM : Nat) (k n : Nat) (w : World) (hf : few6B S M = true) (hv : vldB S M L = true) (hk255 : k ≤ 255) (hn255 : n ≤ 255) (hk : k % 5 < 4) (hS : IntsAt w aS S) (hM : IntsAt w aM M) :
    Calls Try.prog 18 #[.agg #[.slice aS S.length cS, .slice aM M.length cM, .int .i64 L], .int .u8 (k : Int), .int .u8 (n : Int)] w fun e w' => e = .returned (.bool true) ∧ Below w.heap.size w w' := by
  have hl : S.length ≤ 14 ∧ M.length ≤ 70 := by
    have := of_decide_eq_true hf
    exact ⟨this.1, this.2⟩
  have hSl : S.length ≤ 1000000000 := by omega
  have hMl : M.length ≤ 1000000000 := by omega
  obtain ⟨W, hW⟩ : ∃ W, W = (w.alloc (.cells #[.slice aS S.length cS, .slice aM M.length cM, .int .i64 L] 24)) := ⟨_, rfl⟩
  have h0 : HH w W [(w.heap.size, rowO 24 [.slice aS S.length cS, .slice aM M.length cM, .int .i64 L])] [] := by rw [hW]; exact ((HH.start w).alloc #[.slice aS S.length cS, .slice aM M.length cM, .int .i64 L] 24 rfl rfl)
  have H0 := Lib.hid h0
  have H42 : Hid (∀ W', Below w.heap.size w W' → Calls Try.prog 42 #[.agg #[.slice aS S.length cS, .slice aM M.length cM, .int .i64 L]] W' fun e w' => e = .returned (.bool true) ∧ Below W'.heap.size W' w') := Lib.hid fun W' hW' => by rw [← hf]; exact few6_any S M L aS aM cS cM W' (by unfold maxLen; omega) (by unfold maxLen; omega)
  have H39 : Hid (∀ W', Below w.heap.size w W' → Calls Try.prog 39 #[.agg #[.slice aS S.length cS, .slice aM M.length cM, .int .i64 L]] W' fun e w' => e = .returned (.bool true) ∧ Below W'.heap.size W' w') := Lib.hid fun W' hW' => by rw [← hv]; exact valid_any S M L aS aM cS cM W' hSl hMl (hS.later hW') (hM.later hW')
  obtain ⟨N, hN, hNl, _⟩ := comps_nat hv
  obtain ⟨SA, hSA⟩ : ∃ x, x = mulS S (opG (k % 5) (n % S.length)) := ⟨_, rfl⟩
  obtain ⟨MA, hMA⟩ : ∃ x, x = mvL (opT S (k % 5) (n % S.length)) M := ⟨_, rfl⟩
  have hvA := op_valid hv (k % 5) (n % S.length)
  have hNA := comps_op hv (k % 5) (n % S.length)
  have hFA := ft_op hv (k % 5) (n % S.length) hk
  have hund := op_undo hv (k % 5) (n % S.length) hk
  rw [← hSA, ← hMA] at hvA hNA hFA
  rw [← hSA, ← hMA] at hund
  have lSA : SA.length = S.length := by rw [hSA, mulS_len]
  have lMA : MA.length = M.length := by rw [hMA, mvL_len]
  rw [hN] at hNA
  obtain ⟨Fc, hFc⟩ : ∃ x, x = FT M S.length := ⟨_, rfl⟩
  rw [← hFc] at hFA
  have HO : Hid (∀ W', Below w.heap.size w W' → Calls Try.prog 69 #[.agg #[.slice aS S.length cS, .slice aM M.length cM, .int .i64 L], .int .i64 (k : Int), .int .i64 (n : Int)] W' fun e w' => ∃ (a b : Option Addr) (c d : Nat), e = .returned (.tuple #[.agg #[.slice a SA.length c, .slice b MA.length d, .int .i64 L], .bool true]) ∧ IntsAt w' a SA ∧ IntsAt w' b MA ∧ Below W'.heap.size W' w') := Lib.hid fun W' hW' => by
    have h := oper_yes S M L aS aM cS cM k n W' hv hk hn255 (hS.later hW') (hM.later hW')
    rw [← hSA, ← hMA] at h
    refine h.mono ?_
    rintro e w' ⟨a, b, c, d, he, h1, h2, h3⟩
    rw [← lSA, ← lMA] at he
    exact ⟨a, b, c, d, he, h1.at, h2.at, h3⟩
  have HVA : Hid (∀ (a b : Option Addr) (c d : Nat) (W' : World), IntsAt W' a SA → IntsAt W' b MA → Calls Try.prog 39 #[.agg #[.slice a SA.length c, .slice b MA.length d, .int .i64 L]] W' fun e w' => e = .returned (.bool true) ∧ Below W'.heap.size W' w') := Lib.hid fun a b c d W' h1 h2 => by rw [← hvA]; exact valid_any SA MA L a b c d W' (by rw [lSA]; exact hSl) (by rw [lMA]; exact hMl) h1 h2
  have HFA : Hid (∀ (a b : Option Addr) (c d : Nat) (W' : World), IntsAt W' a SA → IntsAt W' b MA → Calls Try.prog 71 #[.agg #[.slice a SA.length c, .slice b MA.length d, .int .i64 L]] W' fun e w' => ∃ a c, e = .returned (.slice a Fc c) ∧ Below W'.heap.size W' w') := Lib.hid fun a b c d W' h1 h2 => by rw [← hFA]; exact faces_yes SA MA L a b c d W' hvA h1 h2
  have HFD : Hid (∀ W', Below w.heap.size w W' → Calls Try.prog 71 #[.agg #[.slice aS S.length cS, .slice aM M.length cM, .int .i64 L]] W' fun e w' => ∃ a c, e = .returned (.slice a Fc c) ∧ Below W'.heap.size W' w') := Lib.hid fun W' hW' => by rw [hFc]; exact faces_yes S M L aS aM cS cM W' hv (hS.later hW') (hM.later hW')
  have HCA : Hid (∀ (a b : Option Addr) (c d : Nat) (W' : World), IntsAt W' a SA → IntsAt W' b MA → Calls Try.prog 40 #[.agg #[.slice a SA.length c, .slice b MA.length d, .int .i64 L]] W' fun e w' => e = .returned (.int .i64 (N : Int)) ∧ Below W'.heap.size W' w') := Lib.hid fun a b c d W' h1 h2 => by rw [← hNA]; exact components_any SA MA L a b c d W' (by rw [lSA]; exact hSl) (by rw [lMA]; exact hMl) h1 h2
  have HCD : Hid (∀ W', Below w.heap.size w W' → Calls Try.prog 40 #[.agg #[.slice aS S.length cS, .slice aM M.length cM, .int .i64 L]] W' fun e w' => e = .returned (.int .i64 (N : Int)) ∧ Below W'.heap.size W' w') := Lib.hid fun W' hW' => by rw [← hN]; exact components_any S M L aS aM cS cM W' hSl hMl (hS.later hW') (hM.later hW')
  have HU : Hid (∀ (a b : Option Addr) (c d : Nat) (W' : World), IntsAt W' a SA → IntsAt W' b MA → Calls Try.prog 69 #[.agg #[.slice a SA.length c, .slice b MA.length d, .int .i64 L], .int .i64 (k : Int), .int .i64 (n : Int)] W' fun e w' => ∃ (a b : Option Addr) (c d : Nat), e = .returned (.tuple #[.agg #[.slice a S.length c, .slice b M.length d, .int .i64 L], .bool true]) ∧ IntsAt w' a S ∧ IntsAt w' b M ∧ Below W'.heap.size W' w') := Lib.hid fun a b c d W' h1 h2 => by
    have h := oper_yes SA MA L a b c d k n W' hvA hk hn255 h1 h2
    rw [show n % SA.length = n % S.length from by rw [lSA], hund.1, hund.2] at h
    refine h.mono ?_
    rintro e w' ⟨a, b, c, d, he, h1, h2, h3⟩
    rw [lSA, lMA] at he
    exact ⟨a, b, c, d, he, h1.at, h2.at, h3⟩
  have H53 : Hid (∀ (a b : Option Addr) (c d : Nat) (W' : World), Below w.heap.size w W' → IntsAt W' a S → IntsAt W' b M → Calls Try.prog 53 #[.agg #[.slice a S.length c, .slice b M.length d, .int .i64 L], .agg #[.slice aS S.length cS, .slice aM M.length cM, .int .i64 L]] W' fun e w' => e = .returned (.bool true) ∧ Below W'.heap.size W' w') := Lib.hid fun a b c d W' hW' i1 i2 => by
    have h := equalD_any S M S M L L a b aS aM c d cS cM W' hSl hMl i1 i2 (hS.later hW') (hM.later hW')
    rw [show eqD S M L S M L = true from decide_eq_true ⟨rfl, rfl, rfl⟩] at h
    exact h
  have HSM := Lib.hid (And.intro hS hM)
  have hS64 : S.length ≤ 64 := by omega
  have hM64 : M.length ≤ 70 := by omega
  have hA64 : SA.length ≤ 64 := by omega
  have hB64 : MA.length ≤ 70 := by omega
  obtain ⟨r, hr⟩ : ∃ x, x = k % 5 := ⟨_, rfl⟩
  have hr4 : r < 4 := by omega
  have hk1 : (k : Int) % 5 = (r : Int) := by omega
  have hk2 : (k : Int).tmod 5 = (r : Int) := by rw [Int.tmod_eq_emod_of_nonneg (by omega)]; exact hk1
  have hr1 : ¬ (r : Int) = 4 := by omega
  have hr2 : ((r : Int) == 4) = false := by rw [beq_eq_false_iff_ne]; exact hr1
  have hr3 : decide ((r : Int) = 4) = false := decide_eq_false hr1
  clear hr hr4 hk hund
  clear hf hv hSl hMl hS hM hl h0 hvA hNA hFA hFc hSA hMA lSA lMA hN
  go_enter Try.func18, Try.ntmps18
  go_wp2_with fail
  rw [← hW]
  clear hW
  refine (awake6_any W).mono ?_
  rintro e w1 ⟨rfl, hb1⟩
  have H1 := Lib.hid (H0.out.call hb1)
  clear hb1 H0
  have hc0_0 := H1.out.cell (k := 0) (i := 0) rfl rfl
  have hc0_1 := H1.out.cell (k := 0) (i := 1) rfl rfl
  have hc0_2 := H1.out.cell (k := 0) (i := 2) rfl rfl
  go_wp2_with fail
  refine (H42.out w1 H1.out.below).mono ?_
  rintro e w2 ⟨rfl, hb2⟩
  have H2 := Lib.hid (H1.out.call hb2)
  clear hb2 H1
  clear hc0_0 hc0_1 hc0_2
  have hc0_0 := H2.out.cell (k := 0) (i := 0) rfl rfl
  have hc0_1 := H2.out.cell (k := 0) (i := 1) rfl rfl
  have hc0_2 := H2.out.cell (k := 0) (i := 2) rfl rfl
  go_wp2_with fail
  refine (H39.out w2 H2.out.below).mono ?_
  rintro e w3 ⟨rfl, hb3⟩
  have H3 := Lib.hid (H2.out.call hb3)
  clear hb3 H2
  clear hc0_0 hc0_1 hc0_2
  have hc0_0 := H3.out.cell (k := 0) (i := 0) rfl rfl
  have hc0_1 := H3.out.cell (k := 0) (i := 1) rfl rfl
  have hc0_2 := H3.out.cell (k := 0) (i := 2) rfl rfl
  go_wp2_with fail
  refine (HO.out w3 H3.out.below).mono ?_
  rintro e w4 ⟨aA, bA, cA, dA, rfl, hiA, hjA, hb4⟩
  have H4 := Lib.hid (H3.out.call hb4)
  clear hb4 H3
  clear hc0_0 hc0_1 hc0_2
  go_upto_region 4 with fail
  obtain ⟨v4, hv4⟩ : ∃ x, x = w4.alloc (.cells #[.slice aA SA.length cA, .slice bA MA.length dA, .int .i64 L] 24) := ⟨_, rfl⟩
  rw [← hv4]
  have h4v : HH w v4 [(w.heap.size, rowO 24 [.slice aS S.length cS, .slice aM M.length cM, .int .i64 L]), (w4.heap.size, rowO 24 [.slice aA SA.length cA, .slice bA MA.length dA, .int .i64 L])] [] := by
    rw [hv4]; exact H4.out.alloc #[.slice aA SA.length cA, .slice bA MA.length dA, .int .i64 L] 24 rfl rfl
  have hb4v : Below w4.heap.size w4 v4 := by rw [hv4]; exact (Below.refl _ _).alloc (Nat.le_refl _) _
  have H4v := Lib.hid h4v
  have HIA : Hid (∀ W', Below v4.heap.size v4 W' → IntsAt W' aA SA ∧ IntsAt W' bA MA) := Lib.hid fun W' h => ⟨(hiA.later hb4v).later h, (hjA.later hb4v).later h⟩
  have HBA := Lib.hid (Below.refl v4.heap.size v4)
  generalize w4.heap.size = qA at *
  clear hv4 h4v hb4v hiA hjA H4
  have HK : Hid (∀ W', Below v4.heap.size v4 W' → HH w W' [(w.heap.size, rowO 24 [.slice aS S.length cS, .slice aM M.length cM, .int .i64 L]), (qA, rowO 24 [.slice aA SA.length cA, .slice bA MA.length dA, .int .i64 L])] []) := Lib.hid fun W' h => H4v.out.call h
  clear HBA H4v
  go_cut [57] (fun s57 wx => s57 = .bool false ∧ Below v4.heap.size v4 wx)
  case first =>
    have Hr := Lib.hid ((Below.refl v4.heap.size v4).drew)
    have Hz := Lib.hid ((HK.out _ Hr.out).below)
    have hq0_0 := (HK.out _ Hr.out).cell (k := 0) (i := 0) rfl rfl
    have hq0_1 := (HK.out _ Hr.out).cell (k := 0) (i := 1) rfl rfl
    have hq0_2 := (HK.out _ Hr.out).cell (k := 0) (i := 2) rfl rfl
    have hq1_0 := (HK.out _ Hr.out).cell (k := 1) (i := 0) rfl rfl
    have hq1_1 := (HK.out _ Hr.out).cell (k := 1) (i := 1) rfl rfl
    have hq1_2 := (HK.out _ Hr.out).cell (k := 1) (i := 2) rfl rfl
    go_region_with (first
      | ((with_reducible refine (HVA.out aA bA cA dA _ (HIA.out _ Hr.out).1 (HIA.out _ Hr.out).2).mono ?_); rintro e wn ⟨rfl, hbx⟩; replace Hr := Lib.hid (below_of Hr.out hbx Hr.out.size); replace Hz := Lib.hid ((HK.out _ Hr.out).below); clear hbx hq0_0 hq0_1 hq0_2 hq1_0 hq1_1 hq1_2; have hq0_0 := (HK.out _ Hr.out).cell (k := 0) (i := 0) rfl rfl; have hq0_1 := (HK.out _ Hr.out).cell (k := 0) (i := 1) rfl rfl; have hq0_2 := (HK.out _ Hr.out).cell (k := 0) (i := 2) rfl rfl; have hq1_0 := (HK.out _ Hr.out).cell (k := 1) (i := 0) rfl rfl; have hq1_1 := (HK.out _ Hr.out).cell (k := 1) (i := 1) rfl rfl; have hq1_2 := (HK.out _ Hr.out).cell (k := 1) (i := 2) rfl rfl)
      | ((with_reducible refine (HFA.out aA bA cA dA _ (HIA.out _ Hr.out).1 (HIA.out _ Hr.out).2).mono ?_); rintro e wn ⟨af, cf, rfl, hbx⟩; replace Hr := Lib.hid (below_of Hr.out hbx Hr.out.size); replace Hz := Lib.hid ((HK.out _ Hr.out).below); clear hbx hq0_0 hq0_1 hq0_2 hq1_0 hq1_1 hq1_2; have hq0_0 := (HK.out _ Hr.out).cell (k := 0) (i := 0) rfl rfl; have hq0_1 := (HK.out _ Hr.out).cell (k := 0) (i := 1) rfl rfl; have hq0_2 := (HK.out _ Hr.out).cell (k := 0) (i := 2) rfl rfl; have hq1_0 := (HK.out _ Hr.out).cell (k := 1) (i := 0) rfl rfl; have hq1_1 := (HK.out _ Hr.out).cell (k := 1) (i := 1) rfl rfl; have hq1_2 := (HK.out _ Hr.out).cell (k := 1) (i := 2) rfl rfl)
      | ((with_reducible refine (HFD.out _ Hz.out).mono ?_); rintro e wn ⟨af, cf, rfl, hbx⟩; replace Hr := Lib.hid (below_of Hr.out hbx Hr.out.size); replace Hz := Lib.hid ((HK.out _ Hr.out).below); clear hbx hq0_0 hq0_1 hq0_2 hq1_0 hq1_1 hq1_2; have hq0_0 := (HK.out _ Hr.out).cell (k := 0) (i := 0) rfl rfl; have hq0_1 := (HK.out _ Hr.out).cell (k := 0) (i := 1) rfl rfl; have hq0_2 := (HK.out _ Hr.out).cell (k := 0) (i := 2) rfl rfl; have hq1_0 := (HK.out _ Hr.out).cell (k := 1) (i := 0) rfl rfl; have hq1_1 := (HK.out _ Hr.out).cell (k := 1) (i := 1) rfl rfl; have hq1_2 := (HK.out _ Hr.out).cell (k := 1) (i := 2) rfl rfl)
      | ((with_reducible refine (HCA.out aA bA cA dA _ (HIA.out _ Hr.out).1 (HIA.out _ Hr.out).2).mono ?_); rintro e wn ⟨rfl, hbx⟩; replace Hr := Lib.hid (below_of Hr.out hbx Hr.out.size); replace Hz := Lib.hid ((HK.out _ Hr.out).below); clear hbx hq0_0 hq0_1 hq0_2 hq1_0 hq1_1 hq1_2; have hq0_0 := (HK.out _ Hr.out).cell (k := 0) (i := 0) rfl rfl; have hq0_1 := (HK.out _ Hr.out).cell (k := 0) (i := 1) rfl rfl; have hq0_2 := (HK.out _ Hr.out).cell (k := 0) (i := 2) rfl rfl; have hq1_0 := (HK.out _ Hr.out).cell (k := 1) (i := 0) rfl rfl; have hq1_1 := (HK.out _ Hr.out).cell (k := 1) (i := 1) rfl rfl; have hq1_2 := (HK.out _ Hr.out).cell (k := 1) (i := 2) rfl rfl)
      | ((with_reducible refine (HCD.out _ Hz.out).mono ?_); rintro e wn ⟨rfl, hbx⟩; replace Hr := Lib.hid (below_of Hr.out hbx Hr.out.size); replace Hz := Lib.hid ((HK.out _ Hr.out).below); clear hbx hq0_0 hq0_1 hq0_2 hq1_0 hq1_1 hq1_2; have hq0_0 := (HK.out _ Hr.out).cell (k := 0) (i := 0) rfl rfl; have hq0_1 := (HK.out _ Hr.out).cell (k := 0) (i := 1) rfl rfl; have hq0_2 := (HK.out _ Hr.out).cell (k := 0) (i := 2) rfl rfl; have hq1_0 := (HK.out _ Hr.out).cell (k := 1) (i := 0) rfl rfl; have hq1_1 := (HK.out _ Hr.out).cell (k := 1) (i := 1) rfl rfl; have hq1_2 := (HK.out _ Hr.out).cell (k := 1) (i := 2) rfl rfl))
    all_goals (go_wp2_with fail; go_meet)
    all_goals exact ⟨rfl, Hr.out⟩
  case rest =>
  obtain ⟨rfl, hbc⟩ := hcut
  have Hbc := Lib.hid hbc
  clear hbc
  have H5 := Lib.hid (HK.out _ Hbc.out)
  have hc1_0 := H5.out.cell (k := 1) (i := 0) rfl rfl
  have hc1_1 := H5.out.cell (k := 1) (i := 1) rfl rfl
  have hc1_2 := H5.out.cell (k := 1) (i := 2) rfl rfl
  go_wp2_with fail
  refine (HU.out aA bA cA dA wc (HIA.out _ Hbc.out).1 (HIA.out _ Hbc.out).2).mono ?_
  rintro e w6 ⟨aB, bB, cB, dB, rfl, hiB, hjB, hb6⟩
  have H6 := Lib.hid (H5.out.call hb6)
  clear hb6 H5 hc1_0 hc1_1 hc1_2
  go_upto_region 16 with fail
  obtain ⟨w7, hw7⟩ : ∃ x, x = w6.alloc (.cells #[.slice aB S.length cB, .slice bB M.length dB, .int .i64 L] 24) := ⟨_, rfl⟩
  rw [← hw7]
  have h7 : HH w w7 [(w.heap.size, rowO 24 [.slice aS S.length cS, .slice aM M.length cM, .int .i64 L]), (qA, rowO 24 [.slice aA SA.length cA, .slice bA MA.length dA, .int .i64 L]), (w6.heap.size, rowO 24 [.slice aB S.length cB, .slice bB M.length dB, .int .i64 L])] [] := by
    rw [hw7]; exact H6.out.alloc #[.slice aB S.length cB, .slice bB M.length dB, .int .i64 L] 24 rfl rfl
  have hb67 : Below w6.heap.size w6 w7 := by rw [hw7]; exact (Below.refl _ _).alloc (Nat.le_refl _) _
  have HIB := Lib.hid (And.intro (hiB.later hb67) (hjB.later hb67))
  have H7 := Lib.hid h7
  generalize w6.heap.size = qB at *
  clear hw7 h7 hb67 hiB hjB H6
  have hc0_0 := H7.out.cell (k := 0) (i := 0) rfl rfl
  have hc0_1 := H7.out.cell (k := 0) (i := 1) rfl rfl
  have hc0_2 := H7.out.cell (k := 0) (i := 2) rfl rfl
  have hc2_0 := H7.out.cell (k := 2) (i := 0) rfl rfl
  have hc2_1 := H7.out.cell (k := 2) (i := 1) rfl rfl
  have hc2_2 := H7.out.cell (k := 2) (i := 2) rfl rfl
  go_wp2_with fail
  refine (H53.out aB bB cB dB w7 H7.out.below HIB.out.1 HIB.out.2).mono ?_
  rintro e w8 ⟨rfl, hb8⟩
  have Hbf := Lib.hid (H7.out.call hb8)
  clear hb8
  go_wp2_with fail
  go_ret
  exact ⟨rfl, Hbf.out.below⟩
set_option maxRecDepth 100000 in
set_option maxHeartbeats 16000000 in
theorem mun_fourz (S M : List Int) (L : Int) (aS aM : Option Addr) (cS cM : Nat) (k n N : Nat) (w : World) (hf : few6B S M = true) (hv : vldB S M L = true) (hk255 : k ≤ 255) (hn255 : n ≤ 255) (hk : k % 5 = 4) (hN : compsN S M L = (N : Int)) (hN0 : N = 0) (hS : IntsAt w aS S) (hM : IntsAt w aM M) :
    Calls Try.prog 18 #[.agg #[.slice aS S.length cS, .slice aM M.length cM, .int .i64 L], .int .u8 (k : Int), .int .u8 (n : Int)] w fun e w' => e = .returned (.bool true) ∧ Below w.heap.size w w' := by
  have hl : S.length ≤ 14 ∧ M.length ≤ 70 := by
    have := of_decide_eq_true hf
    exact ⟨this.1, this.2⟩
  have hSl : S.length ≤ 1000000000 := by omega
  have hMl : M.length ≤ 1000000000 := by omega
  obtain ⟨W, hW⟩ : ∃ W, W = (w.alloc (.cells #[.slice aS S.length cS, .slice aM M.length cM, .int .i64 L] 24)) := ⟨_, rfl⟩
  have h0 : HH w W [(w.heap.size, rowO 24 [.slice aS S.length cS, .slice aM M.length cM, .int .i64 L])] [] := by rw [hW]; exact ((HH.start w).alloc #[.slice aS S.length cS, .slice aM M.length cM, .int .i64 L] 24 rfl rfl)
  have H0 := Lib.hid h0
  have H42 : Hid (∀ W', Below w.heap.size w W' → Calls Try.prog 42 #[.agg #[.slice aS S.length cS, .slice aM M.length cM, .int .i64 L]] W' fun e w' => e = .returned (.bool true) ∧ Below W'.heap.size W' w') := Lib.hid fun W' hW' => by rw [← hf]; exact few6_any S M L aS aM cS cM W' (by unfold maxLen; omega) (by unfold maxLen; omega)
  have H39 : Hid (∀ W', Below w.heap.size w W' → Calls Try.prog 39 #[.agg #[.slice aS S.length cS, .slice aM M.length cM, .int .i64 L]] W' fun e w' => e = .returned (.bool true) ∧ Below W'.heap.size W' w') := Lib.hid fun W' hW' => by rw [← hv]; exact valid_any S M L aS aM cS cM W' hSl hMl (hS.later hW') (hM.later hW')
  have hst : ((strandsL S M L).length : Int) + L = 0 := by
    have h : compsN S M L = ((strandsL S M L).length : Int) + L := by rw [compsN, if_pos hv]
    rw [hN, hN0] at h; exact h.symm
  obtain ⟨SA, hSA⟩ : ∃ x, x = S := ⟨_, rfl⟩
  obtain ⟨MA, hMA⟩ : ∃ x, x = M := ⟨_, rfl⟩
  have hvA := hv
  have hNA : compsN S M L = compsN S M L := rfl
  have hFA : FT M S.length = FT M S.length := rfl
  have hNl : N ≤ 1000 := by omega
  rw [← hSA, ← hMA] at hvA
  rw [show compsN S M L = compsN SA MA L from by rw [hSA, hMA]] at hNA
  rw [show FT M S.length = FT MA SA.length from by rw [hSA, hMA]] at hFA
  replace hNA : compsN SA MA L = compsN S M L := by rw [hSA, hMA]
  replace hFA : FT MA SA.length = FT M S.length := by rw [hSA, hMA]
  have lSA : SA.length = S.length := by rw [hSA]
  have lMA : MA.length = M.length := by rw [hMA]
  rw [hN] at hNA
  obtain ⟨Fc, hFc⟩ : ∃ x, x = FT M S.length := ⟨_, rfl⟩
  rw [← hFc] at hFA
  have HO : Hid (∀ W', Below w.heap.size w W' → Calls Try.prog 69 #[.agg #[.slice aS S.length cS, .slice aM M.length cM, .int .i64 L], .int .i64 (k : Int), .int .i64 (n : Int)] W' fun e w' => ∃ (a b : Option Addr) (c d : Nat), e = .returned (.tuple #[.agg #[.slice a SA.length c, .slice b MA.length d, .int .i64 L], .bool true]) ∧ IntsAt w' a SA ∧ IntsAt w' b MA ∧ Below W'.heap.size W' w') := Lib.hid fun W' hW' => by
    have h := oper4z S M L aS aM cS cM k n W' hv hk hst (hS.later hW') (hM.later hW')
    refine h.mono ?_
    rintro e w' ⟨he, h3⟩
    have i1 := hS.later (below_of hW' h3 hW'.size)
    have i2 := hM.later (below_of hW' h3 hW'.size)
    rw [hSA, hMA]
    exact ⟨aS, aM, cS, cM, he, i1, i2, h3⟩
  have HVA : Hid (∀ (a b : Option Addr) (c d : Nat) (W' : World), IntsAt W' a SA → IntsAt W' b MA → Calls Try.prog 39 #[.agg #[.slice a SA.length c, .slice b MA.length d, .int .i64 L]] W' fun e w' => e = .returned (.bool true) ∧ Below W'.heap.size W' w') := Lib.hid fun a b c d W' h1 h2 => by rw [← hvA]; exact valid_any SA MA L a b c d W' (by rw [lSA]; exact hSl) (by rw [lMA]; exact hMl) h1 h2
  have HFA : Hid (∀ (a b : Option Addr) (c d : Nat) (W' : World), IntsAt W' a SA → IntsAt W' b MA → Calls Try.prog 71 #[.agg #[.slice a SA.length c, .slice b MA.length d, .int .i64 L]] W' fun e w' => ∃ a c, e = .returned (.slice a Fc c) ∧ Below W'.heap.size W' w') := Lib.hid fun a b c d W' h1 h2 => by rw [← hFA]; exact faces_yes SA MA L a b c d W' hvA h1 h2
  have HFD : Hid (∀ W', Below w.heap.size w W' → Calls Try.prog 71 #[.agg #[.slice aS S.length cS, .slice aM M.length cM, .int .i64 L]] W' fun e w' => ∃ a c, e = .returned (.slice a Fc c) ∧ Below W'.heap.size W' w') := Lib.hid fun W' hW' => by rw [hFc]; exact faces_yes S M L aS aM cS cM W' hv (hS.later hW') (hM.later hW')
  have HCA : Hid (∀ (a b : Option Addr) (c d : Nat) (W' : World), IntsAt W' a SA → IntsAt W' b MA → Calls Try.prog 40 #[.agg #[.slice a SA.length c, .slice b MA.length d, .int .i64 L]] W' fun e w' => e = .returned (.int .i64 (N : Int)) ∧ Below W'.heap.size W' w') := Lib.hid fun a b c d W' h1 h2 => by rw [← hNA]; exact components_any SA MA L a b c d W' (by rw [lSA]; exact hSl) (by rw [lMA]; exact hMl) h1 h2
  have HCD : Hid (∀ W', Below w.heap.size w W' → Calls Try.prog 40 #[.agg #[.slice aS S.length cS, .slice aM M.length cM, .int .i64 L]] W' fun e w' => e = .returned (.int .i64 (N : Int)) ∧ Below W'.heap.size W' w') := Lib.hid fun W' hW' => by rw [← hN]; exact components_any S M L aS aM cS cM W' hSl hMl (hS.later hW') (hM.later hW')
  have HSM := Lib.hid (And.intro hS hM)
  have hS64 : S.length ≤ 64 := by omega
  have hM64 : M.length ≤ 70 := by omega
  have hA64 : SA.length ≤ 64 := by omega
  have hB64 : MA.length ≤ 70 := by omega
  have hk1 : (k : Int) % 5 = 4 := by omega
  have hk2 : (k : Int).tmod 5 = 4 := by rw [Int.tmod_eq_emod_of_nonneg (by omega)]; exact hk1
  clear hk hst
  clear hf hv hSl hMl hS hM hl h0 hvA hNA hFA hFc hSA hMA lSA lMA hN
  go_enter Try.func18, Try.ntmps18
  go_wp2_with fail
  rw [← hW]
  clear hW
  refine (awake6_any W).mono ?_
  rintro e w1 ⟨rfl, hb1⟩
  have H1 := Lib.hid (H0.out.call hb1)
  clear hb1 H0
  have hc0_0 := H1.out.cell (k := 0) (i := 0) rfl rfl
  have hc0_1 := H1.out.cell (k := 0) (i := 1) rfl rfl
  have hc0_2 := H1.out.cell (k := 0) (i := 2) rfl rfl
  go_wp2_with fail
  refine (H42.out w1 H1.out.below).mono ?_
  rintro e w2 ⟨rfl, hb2⟩
  have H2 := Lib.hid (H1.out.call hb2)
  clear hb2 H1
  clear hc0_0 hc0_1 hc0_2
  have hc0_0 := H2.out.cell (k := 0) (i := 0) rfl rfl
  have hc0_1 := H2.out.cell (k := 0) (i := 1) rfl rfl
  have hc0_2 := H2.out.cell (k := 0) (i := 2) rfl rfl
  go_wp2_with fail
  refine (H39.out w2 H2.out.below).mono ?_
  rintro e w3 ⟨rfl, hb3⟩
  have H3 := Lib.hid (H2.out.call hb3)
  clear hb3 H2
  clear hc0_0 hc0_1 hc0_2
  have hc0_0 := H3.out.cell (k := 0) (i := 0) rfl rfl
  have hc0_1 := H3.out.cell (k := 0) (i := 1) rfl rfl
  have hc0_2 := H3.out.cell (k := 0) (i := 2) rfl rfl
  go_wp2_with fail
  refine (HO.out w3 H3.out.below).mono ?_
  rintro e w4 ⟨aA, bA, cA, dA, rfl, hiA, hjA, hb4⟩
  have H4 := Lib.hid (H3.out.call hb4)
  clear hb4 H3
  clear hc0_0 hc0_1 hc0_2
  go_upto_region 4 with fail
  obtain ⟨v4, hv4⟩ : ∃ x, x = w4.alloc (.cells #[.slice aA SA.length cA, .slice bA MA.length dA, .int .i64 L] 24) := ⟨_, rfl⟩
  rw [← hv4]
  have h4v : HH w v4 [(w.heap.size, rowO 24 [.slice aS S.length cS, .slice aM M.length cM, .int .i64 L]), (w4.heap.size, rowO 24 [.slice aA SA.length cA, .slice bA MA.length dA, .int .i64 L])] [] := by
    rw [hv4]; exact H4.out.alloc #[.slice aA SA.length cA, .slice bA MA.length dA, .int .i64 L] 24 rfl rfl
  have hb4v : Below w4.heap.size w4 v4 := by rw [hv4]; exact (Below.refl _ _).alloc (Nat.le_refl _) _
  have H4v := Lib.hid h4v
  have HIA : Hid (∀ W', Below v4.heap.size v4 W' → IntsAt W' aA SA ∧ IntsAt W' bA MA) := Lib.hid fun W' h => ⟨(hiA.later hb4v).later h, (hjA.later hb4v).later h⟩
  have HBA := Lib.hid (Below.refl v4.heap.size v4)
  generalize w4.heap.size = qA at *
  clear hv4 h4v hb4v hiA hjA H4
  have HK : Hid (∀ W', Below v4.heap.size v4 W' → HH w W' [(w.heap.size, rowO 24 [.slice aS S.length cS, .slice aM M.length cM, .int .i64 L]), (qA, rowO 24 [.slice aA SA.length cA, .slice bA MA.length dA, .int .i64 L])] []) := Lib.hid fun W' h => H4v.out.call h
  clear HBA H4v
  go_cut [57] (fun s57 wx => s57 = .bool false ∧ Below v4.heap.size v4 wx)
  case first =>
    have Hr := Lib.hid ((Below.refl v4.heap.size v4).drew)
    have Hz := Lib.hid ((HK.out _ Hr.out).below)
    have hq0_0 := (HK.out _ Hr.out).cell (k := 0) (i := 0) rfl rfl
    have hq0_1 := (HK.out _ Hr.out).cell (k := 0) (i := 1) rfl rfl
    have hq0_2 := (HK.out _ Hr.out).cell (k := 0) (i := 2) rfl rfl
    have hq1_0 := (HK.out _ Hr.out).cell (k := 1) (i := 0) rfl rfl
    have hq1_1 := (HK.out _ Hr.out).cell (k := 1) (i := 1) rfl rfl
    have hq1_2 := (HK.out _ Hr.out).cell (k := 1) (i := 2) rfl rfl
    go_region_with (first
      | ((with_reducible refine (HVA.out aA bA cA dA _ (HIA.out _ Hr.out).1 (HIA.out _ Hr.out).2).mono ?_); rintro e wn ⟨rfl, hbx⟩; replace Hr := Lib.hid (below_of Hr.out hbx Hr.out.size); replace Hz := Lib.hid ((HK.out _ Hr.out).below); clear hbx hq0_0 hq0_1 hq0_2 hq1_0 hq1_1 hq1_2; have hq0_0 := (HK.out _ Hr.out).cell (k := 0) (i := 0) rfl rfl; have hq0_1 := (HK.out _ Hr.out).cell (k := 0) (i := 1) rfl rfl; have hq0_2 := (HK.out _ Hr.out).cell (k := 0) (i := 2) rfl rfl; have hq1_0 := (HK.out _ Hr.out).cell (k := 1) (i := 0) rfl rfl; have hq1_1 := (HK.out _ Hr.out).cell (k := 1) (i := 1) rfl rfl; have hq1_2 := (HK.out _ Hr.out).cell (k := 1) (i := 2) rfl rfl)
      | ((with_reducible refine (HFA.out aA bA cA dA _ (HIA.out _ Hr.out).1 (HIA.out _ Hr.out).2).mono ?_); rintro e wn ⟨af, cf, rfl, hbx⟩; replace Hr := Lib.hid (below_of Hr.out hbx Hr.out.size); replace Hz := Lib.hid ((HK.out _ Hr.out).below); clear hbx hq0_0 hq0_1 hq0_2 hq1_0 hq1_1 hq1_2; have hq0_0 := (HK.out _ Hr.out).cell (k := 0) (i := 0) rfl rfl; have hq0_1 := (HK.out _ Hr.out).cell (k := 0) (i := 1) rfl rfl; have hq0_2 := (HK.out _ Hr.out).cell (k := 0) (i := 2) rfl rfl; have hq1_0 := (HK.out _ Hr.out).cell (k := 1) (i := 0) rfl rfl; have hq1_1 := (HK.out _ Hr.out).cell (k := 1) (i := 1) rfl rfl; have hq1_2 := (HK.out _ Hr.out).cell (k := 1) (i := 2) rfl rfl)
      | ((with_reducible refine (HFD.out _ Hz.out).mono ?_); rintro e wn ⟨af, cf, rfl, hbx⟩; replace Hr := Lib.hid (below_of Hr.out hbx Hr.out.size); replace Hz := Lib.hid ((HK.out _ Hr.out).below); clear hbx hq0_0 hq0_1 hq0_2 hq1_0 hq1_1 hq1_2; have hq0_0 := (HK.out _ Hr.out).cell (k := 0) (i := 0) rfl rfl; have hq0_1 := (HK.out _ Hr.out).cell (k := 0) (i := 1) rfl rfl; have hq0_2 := (HK.out _ Hr.out).cell (k := 0) (i := 2) rfl rfl; have hq1_0 := (HK.out _ Hr.out).cell (k := 1) (i := 0) rfl rfl; have hq1_1 := (HK.out _ Hr.out).cell (k := 1) (i := 1) rfl rfl; have hq1_2 := (HK.out _ Hr.out).cell (k := 1) (i := 2) rfl rfl)
      | ((with_reducible refine (HCA.out aA bA cA dA _ (HIA.out _ Hr.out).1 (HIA.out _ Hr.out).2).mono ?_); rintro e wn ⟨rfl, hbx⟩; replace Hr := Lib.hid (below_of Hr.out hbx Hr.out.size); replace Hz := Lib.hid ((HK.out _ Hr.out).below); clear hbx hq0_0 hq0_1 hq0_2 hq1_0 hq1_1 hq1_2; have hq0_0 := (HK.out _ Hr.out).cell (k := 0) (i := 0) rfl rfl; have hq0_1 := (HK.out _ Hr.out).cell (k := 0) (i := 1) rfl rfl; have hq0_2 := (HK.out _ Hr.out).cell (k := 0) (i := 2) rfl rfl; have hq1_0 := (HK.out _ Hr.out).cell (k := 1) (i := 0) rfl rfl; have hq1_1 := (HK.out _ Hr.out).cell (k := 1) (i := 1) rfl rfl; have hq1_2 := (HK.out _ Hr.out).cell (k := 1) (i := 2) rfl rfl)
      | ((with_reducible refine (HCD.out _ Hz.out).mono ?_); rintro e wn ⟨rfl, hbx⟩; replace Hr := Lib.hid (below_of Hr.out hbx Hr.out.size); replace Hz := Lib.hid ((HK.out _ Hr.out).below); clear hbx hq0_0 hq0_1 hq0_2 hq1_0 hq1_1 hq1_2; have hq0_0 := (HK.out _ Hr.out).cell (k := 0) (i := 0) rfl rfl; have hq0_1 := (HK.out _ Hr.out).cell (k := 0) (i := 1) rfl rfl; have hq0_2 := (HK.out _ Hr.out).cell (k := 0) (i := 2) rfl rfl; have hq1_0 := (HK.out _ Hr.out).cell (k := 1) (i := 0) rfl rfl; have hq1_1 := (HK.out _ Hr.out).cell (k := 1) (i := 1) rfl rfl; have hq1_2 := (HK.out _ Hr.out).cell (k := 1) (i := 2) rfl rfl))
    all_goals (go_wp2_with fail; go_meet)
    all_goals exact ⟨rfl, Hr.out⟩
  case rest =>
  obtain ⟨rfl, hbc⟩ := hcut
  have Hbc := Lib.hid hbc
  clear hbc
  have H5 := Lib.hid (HK.out _ Hbc.out)
  have hc1_0 := H5.out.cell (k := 1) (i := 0) rfl rfl
  have hc1_1 := H5.out.cell (k := 1) (i := 1) rfl rfl
  have hc1_2 := H5.out.cell (k := 1) (i := 2) rfl rfl
  go_wp2_with fail
  refine (HCA.out aA bA cA dA wc (HIA.out _ Hbc.out).1 (HIA.out _ Hbc.out).2).mono ?_
  rintro e w6 ⟨rfl, hb6⟩
  have Hb6 := Lib.hid (below_of Hbc.out hb6 Hbc.out.size)
  clear hb6 H5 hc1_0 hc1_1 hc1_2
  go_wp2_with fail
  go_loopg [63] 0 (fun g t wr => g = 0 ∧ t = .int .i64 0 ∧ Below v4.heap.size v4 wr)
  case atStart => exact ⟨rfl, rfl, Hb6.out⟩
  case round =>
    obtain ⟨rfl, rfl, hb⟩ := hrel
    have Hb := Lib.hid hb
    clear hb
    have H8 := Lib.hid (HK.out _ Hb.out)
    have hc1_0 := H8.out.cell (k := 1) (i := 0) rfl rfl
    have hc1_1 := H8.out.cell (k := 1) (i := 1) rfl rfl
    have hc1_2 := H8.out.cell (k := 1) (i := 2) rfl rfl
    have hz1 : decide ((0 : Int) < (N : Int)) = false := decide_eq_false (by omega)
    go_wp2_with fail
    refine (HCA.out aA bA cA dA wr (HIA.out _ Hb.out).1 (HIA.out _ Hb.out).2).mono ?_
    rintro e w9 ⟨rfl, hb9⟩
    have Hbf := Lib.hid (H8.out.call hb9)
    clear hb9
    have hz2 : ((N : Int) == 0) = true := by rw [beq_iff_eq]; omega
    have hz3 : decide (N = 0) = true := decide_eq_true hN0
    have hz4 : (N == 0) = true := by rw [beq_iff_eq]; exact hN0
    clear hN0
    go_wp2_with fail
    go_ret
    exact ⟨rfl, Hbf.out.below⟩
end Go.Proofs.Ytkopbcehfbmnmaa
