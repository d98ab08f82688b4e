/- The walk of the law MirrorCrosses: two crossings, in this order. -/
import Derived.Test.YtkopbcehfbmnmaaMCrA
import Derived.Test.YtkopbcehfbmnmaaAwake6
namespace Go.Proofs.Ytkopbcehfbmnmaa
open Go Go.RowKit
set_option maxRecDepth 100000 in
set_option maxHeartbeats 16000000 in
theorem mcr_ge (S M : List Int) (L : Int) (aS aM : Option Addr) (cS cM : Nat) (SA MA SB MB SP MP SX MX SY MY : List Int) (LA LB LP : Int) (j k kd : Int) (a b b0 m : Nat) (w : World) (hf : few6B S M = true) (hv : vldB S M L = true) (hn : 2 ≤ S.length) (hL : L ≤ 60) (hj : j.tmod (S.length : Int) = (a : Int)) (ha : a < S.length) (hk : k.tmod ((S.length : Int) - 1) = (b0 : Int)) (hb0 : b0 < S.length - 1) (hbb : a ≤ b0) (hb : b = b0 + 1) (hm : kd.tmod 3 = (m : Int)) (hj0 : 0 ≤ j) (hj1 : j ≤ 255) (hk0 : 0 ≤ k) (hk1 : k ≤ 255) (hd0 : 0 ≤ kd) (hd1 : kd ≤ 255)
    (HSA : ∀ (x y : Option Addr) (c d : Nat) (W' : World), IntsAt W' x S → IntsAt W' y M → Calls Try.prog 57 #[.agg #[.slice x S.length c, .slice y M.length d, .int .i64 L], .int .i64 ((a : Nat) : Int)] W' (fun e w' => ∃ (a b : Option Addr) (c d : Nat), e = .returned (.tuple #[.agg #[.slice a SA.length c, .slice b MA.length d, .int .i64 LA], .int .i64 0]) ∧ BxAt w' a SA ∧ BxAt w' b MA ∧ Below W'.heap.size W' w'))
    (HSab : ∀ (x y : Option Addr) (c d : Nat) (W' : World), IntsAt W' x SA → IntsAt W' y MA → Calls Try.prog 57 #[.agg #[.slice x SA.length c, .slice y MA.length d, .int .i64 LA], .int .i64 ((bk a b : Nat) : Int)] W' (fun e w' => ∃ (a b : Option Addr) (c d : Nat), e = .returned (.tuple #[.agg #[.slice a SP.length c, .slice b MP.length d, .int .i64 LP], .int .i64 0]) ∧ BxAt w' a SP ∧ BxAt w' b MP ∧ Below W'.heap.size W' w'))
    (HSB : ∀ (x y : Option Addr) (c d : Nat) (W' : World), IntsAt W' x S → IntsAt W' y M → Calls Try.prog 57 #[.agg #[.slice x S.length c, .slice y M.length d, .int .i64 L], .int .i64 ((b : Nat) : Int)] W' (fun e w' => ∃ (a b : Option Addr) (c d : Nat), e = .returned (.tuple #[.agg #[.slice a SB.length c, .slice b MB.length d, .int .i64 LB], .int .i64 0]) ∧ BxAt w' a SB ∧ BxAt w' b MB ∧ Below W'.heap.size W' w'))
    (HSba : ∀ (x y : Option Addr) (c d : Nat) (W' : World), IntsAt W' x SB → IntsAt W' y MB → Calls Try.prog 57 #[.agg #[.slice x SB.length c, .slice y MB.length d, .int .i64 LB], .int .i64 ((bk b a : Nat) : Int)] W' (fun e w' => ∃ (a b : Option Addr) (c d : Nat), e = .returned (.tuple #[.agg #[.slice a SP.length c, .slice b MP.length d, .int .i64 LP], .int .i64 0]) ∧ BxAt w' a SP ∧ BxAt w' b MP ∧ Below W'.heap.size W' w'))
    (HOX : ∀ (x y : Option Addr) (c d : Nat) (W' : World), IntsAt W' x S → IntsAt W' y M → Calls Try.prog 69 #[.agg #[.slice x S.length c, .slice y M.length d, .int .i64 L], .int .i64 ((m : Nat) : Int), .int .i64 0] W' (fun e w' => ∃ (a b : Option Addr) (c d : Nat), e = .returned (.tuple #[.agg #[.slice a SX.length c, .slice b MX.length d, .int .i64 L], .bool true]) ∧ BxAt w' a SX ∧ BxAt w' b MX ∧ Below W'.heap.size W' w'))
    (HSX : ∀ (x y : Option Addr) (c d : Nat) (W' : World), IntsAt W' x SX → IntsAt W' y MX → Calls Try.prog 57 #[.agg #[.slice x SX.length c, .slice y MX.length d, .int .i64 L], .int .i64 ((a : Nat) : Int)] W' (fun e w' => ∃ (a b : Option Addr) (c d : Nat), e = .returned (.tuple #[.agg #[.slice a SY.length c, .slice b MY.length d, .int .i64 LA], .int .i64 0]) ∧ BxAt w' a SY ∧ BxAt w' b MY ∧ Below W'.heap.size W' w'))
    (HOA : ∀ (x y : Option Addr) (c d : Nat) (W' : World), IntsAt W' x SA → IntsAt W' y MA → Calls Try.prog 69 #[.agg #[.slice x SA.length c, .slice y MA.length d, .int .i64 LA], .int .i64 ((m : Nat) : Int), .int .i64 0] W' (fun e w' => ∃ (a b : Option Addr) (c d : Nat), e = .returned (.tuple #[.agg #[.slice a SY.length c, .slice b MY.length d, .int .i64 LA], .bool true]) ∧ BxAt w' a SY ∧ BxAt w' b MY ∧ Below W'.heap.size W' w'))
    (HEP : ∀ (a b a' b' : Option Addr) (c d c' d' : Nat) (W' : World), IntsAt W' a SP → IntsAt W' b MP → IntsAt W' a' SP → IntsAt W' b' MP → Calls Try.prog 53 #[.agg #[.slice a SP.length c, .slice b MP.length d, .int .i64 LP], .agg #[.slice a' SP.length c', .slice b' MP.length d', .int .i64 LP]] W' (fun e w' => e = .returned (.bool true) ∧ Below W'.heap.size W' w'))
    (HEY : ∀ (a b a' b' : Option Addr) (c d c' d' : Nat) (W' : World), IntsAt W' a SY → IntsAt W' b MY → IntsAt W' a' SY → IntsAt W' b' MY → Calls Try.prog 53 #[.agg #[.slice a SY.length c, .slice b MY.length d, .int .i64 LA], .agg #[.slice a' SY.length c', .slice b' MY.length d', .int .i64 LA]] W' (fun e w' => e = .returned (.bool true) ∧ Below W'.heap.size W' w'))
    (hS : IntsAt w aS S) (hM : IntsAt w aM M) :
    Calls Try.prog 17 #[.agg #[.slice aS S.length cS, .slice aM M.length cM, .int .i64 L], .int .u8 j, .int .u8 k, .int .u8 kd] w fun e w' => e = .returned (.bool true) ∧ Below w.heap.size w w' := by
  have hl : S.length ≤ 14 ∧ M.length ≤ 70 := by
    have := of_decide_eq_true hf
    exact ⟨this.1, this.2⟩
  have hSl : S.length ≤ 1000000000 := by omega
  have hMl : M.length ≤ 1000000000 := by omega
  obtain ⟨W, hW⟩ : ∃ W, W = (w.alloc (.cells #[.slice aS S.length cS, .slice aM M.length cM, .int .i64 L] 24)) := ⟨_, rfl⟩
  have h0 : HH w W [(w.heap.size, rowO 24 [.slice aS S.length cS, .slice aM M.length cM, .int .i64 L])] [] := by rw [hW]; exact ((HH.start w).alloc #[.slice aS S.length cS, .slice aM M.length cM, .int .i64 L] 24 rfl rfl)
  have H0 := Lib.hid h0
  have H42 : Hid (∀ W', Below w.heap.size w W' → Calls Try.prog 42 #[.agg #[.slice aS S.length cS, .slice aM M.length cM, .int .i64 L]] W' fun e w' => e = .returned (.bool true) ∧ Below W'.heap.size W' w') := Lib.hid fun W' hW' => by rw [← hf]; exact few6_any S M L aS aM cS cM W' (by unfold maxLen; omega) (by unfold maxLen; omega)
  have H39 : Hid (∀ W', Below w.heap.size w W' → Calls Try.prog 39 #[.agg #[.slice aS S.length cS, .slice aM M.length cM, .int .i64 L]] W' fun e w' => e = .returned (.bool true) ∧ Below W'.heap.size W' w') := Lib.hid fun W' hW' => by rw [← hv]; exact valid_any S M L aS aM cS cM W' hSl hMl (hS.later hW') (hM.later hW')
  have hS64 : S.length ≤ 64 := by omega
  have hn1 : ¬ S.length < 2 := by omega
  have hn2 : decide (S.length < 2) = false := decide_eq_false hn1
  have hn3 : decide ((S.length : Int) < 2) = false := decide_eq_false (by omega)
  have hn4 : ¬ S.length = 0 := by omega
  have hn5 : ((S.length : Int) == 0) = false := by rw [beq_eq_false_iff_ne]; omega
  have hn6 : ¬ (S.length : Int) - 1 = 0 := by omega
  have hn7 : ((S.length : Int) - 1 == 0) = false := by rw [beq_eq_false_iff_ne]; omega
  have hl60 : decide (60 < L) = false := decide_eq_false (by omega)
  have hbb2 : decide (a ≤ b0) = true := decide_eq_true hbb
  have hbi : (b0 : Int) + 1 = (b : Int) := by omega
  have hb64 : b0 ≤ 64 := by omega
  have hb1000 : b ≤ 1000 := by omega
  have ha1000 : a ≤ 1000 := by omega
  have H7a := Lib.hid fun W' => after_any a b W' hb1000
  have H7b := Lib.hid fun W' => after_any b a W' ha1000
  have HSM := Lib.hid (And.intro hS hM)
  have KSA := Lib.hid HSA
  have KSab := Lib.hid HSab
  have KSB := Lib.hid HSB
  have KSba := Lib.hid HSba
  have KOX := Lib.hid HOX
  have KSX := Lib.hid HSX
  have KOA := Lib.hid HOA
  have KEP := Lib.hid HEP
  have KEY := Lib.hid HEY
  clear hf hv hSl hMl hS hM hl h0 hn hL hb0 ha hbb hb HSA HSab HSB HSba HOX HSX HOA HEP HEY
  go_enter Try.func17, Try.ntmps17
  go_wp2_with fail
  rw [← hW]
  clear hW
  refine (awake6_any W).mono ?_
  rintro e w1 ⟨rfl, hb1⟩
  have H1 := Lib.hid (H0.out.call hb1)
  clear hb1 H0
  have hc0_0 := H1.out.cell (k := 0) (i := 0) rfl rfl
  have hc0_1 := H1.out.cell (k := 0) (i := 1) rfl rfl
  have hc0_2 := H1.out.cell (k := 0) (i := 2) rfl rfl
  go_wp2_with fail
  refine (H42.out w1 H1.out.below).mono ?_
  rintro e w2 ⟨rfl, hb2⟩
  have H2 := Lib.hid (H1.out.call hb2)
  clear hb2 H1
  clear hc0_0 hc0_1 hc0_2
  have hc0_0 := H2.out.cell (k := 0) (i := 0) rfl rfl
  have hc0_1 := H2.out.cell (k := 0) (i := 1) rfl rfl
  have hc0_2 := H2.out.cell (k := 0) (i := 2) rfl rfl
  go_wp2_with fail
  refine (H39.out w2 H2.out.below).mono ?_
  rintro e w3 ⟨rfl, hb3⟩
  have H3 := Lib.hid (H2.out.call hb3)
  clear hb3 H2
  clear hc0_0 hc0_1 hc0_2
  have hc0_0 := H3.out.cell (k := 0) (i := 0) rfl rfl
  have hc0_1 := H3.out.cell (k := 0) (i := 1) rfl rfl
  have hc0_2 := H3.out.cell (k := 0) (i := 2) rfl rfl
  go_wp2_with fail
  clear hn1 hn2 hn3 hn4 hn5 hn6 hn7 hl60 hbb2 hj hk
  refine (KSA.out aS aM cS cM w3 (H3.out.came HSM.out.1) (H3.out.came HSM.out.2)).mono ?_
  rintro e w4 ⟨aA, bA, cA, dA, rfl, hiA, hjA, hb4⟩
  have H4 := Lib.hid (H3.out.call hb4)
  clear hb4 H3 hc0_0 hc0_1 hc0_2
  go_upto_region 9 with fail
  obtain ⟨v4, hv4⟩ : ∃ x, x = w4.alloc (.cells #[.slice aA SA.length cA, .slice bA MA.length dA, .int .i64 LA] 24) := ⟨_, rfl⟩
  rw [← hv4]
  have h4v : HH w v4 [(w.heap.size, rowO 24 [.slice aS S.length cS, .slice aM M.length cM, .int .i64 L]), (w4.heap.size, rowO 24 [.slice aA SA.length cA, .slice bA MA.length dA, .int .i64 LA])] [] := by
    rw [hv4]; exact H4.out.alloc #[.slice aA SA.length cA, .slice bA MA.length dA, .int .i64 LA] 24 rfl rfl
  have HIA : Hid (BxAt v4 aA SA ∧ BxAt v4 bA MA) := Lib.hid (by rw [hv4]; exact ⟨hiA.alloc _, hjA.alloc _⟩)
  have H4v := Lib.hid h4v
  generalize w4.heap.size = qA at *
  clear hv4 h4v hiA hjA H4
  go_cut [14] (fun s0 wx => ∃ (aP bP : Option Addr) (cP dP : Nat), s0 = .int .i64 0 ∧ BxAt wx aP SP ∧ BxAt wx bP MP ∧ HH w wx [(w.heap.size, rowO 24 [.slice aS S.length cS, .slice aM M.length cM, .int .i64 L]), (qA, rowO 24 [.slice aP SP.length cP, .slice bP MP.length dP, .int .i64 LP])] [])
  case first =>
    have Hd := Lib.hid H4v.out.drew
    have hc0 := Hd.out.cell (k := 1) (i := 0) rfl rfl
    have hc1 := Hd.out.cell (k := 1) (i := 1) rfl rfl
    have hc2 := Hd.out.cell (k := 1) (i := 2) rfl rfl
    have HC := Lib.hid (KSab.out aA bA cA dA v4.drew HIA.out.1.drew.at HIA.out.2.drew.at)
    clear H4v
    go_region_with (first
      | ((with_reducible refine (H7a.out _).mono ?_); rintro e wn ⟨rfl, rfl⟩)
      | ((with_reducible refine HC.out.mono ?_); rintro e w8 ⟨aP, bP, cP, dP, rfl, hi8, hj8, hb8⟩; have H8 := Lib.hid (Hd.out.call hb8); have HI8 := Lib.hid (And.intro hi8 hj8); have Hb8 := Lib.hid hb8; clear hb8 hi8 hj8 hc0 hc1 hc2; have hd0 := H8.out.cell (k := 1) (i := 0) rfl rfl; have hf0 := H8.out.frozen (k := 1) rfl 0; have hd1 := H8.out.cell (k := 1) (i := 1) rfl rfl; have hf1 := H8.out.frozen (k := 1) rfl 1; have hd2 := H8.out.cell (k := 1) (i := 2) rfl rfl; have hf2 := H8.out.frozen (k := 1) rfl 2))
    all_goals (go_wp2_with fail; go_meet)
    all_goals exact ⟨aP, bP, cP, dP, rfl, HI8.out.1.box (H8.out.row (k := 1) rfl) _ _ _, HI8.out.2.box (H8.out.row (k := 1) rfl) _ _ _, ((H8.out.set (k := 1) rfl 0 _).set (k := 1) rfl 1 _).set (k := 1) rfl 2 _⟩
  case rest =>
  obtain ⟨u5, rfl⟩ : ∃ x, x = wc := ⟨_, rfl⟩
  clear HIA
  clear H4v
  obtain ⟨aP, bP, cP, dP, rfl, hi, hj, hh⟩ := hcut
  have HIP := Lib.hid (And.intro hi hj)
  have H5u := Lib.hid hh
  clear hi hj hh
  have hc0 := H5u.out.cell (k := 0) (i := 0) rfl rfl
  have hc1 := H5u.out.cell (k := 0) (i := 1) rfl rfl
  have hc2 := H5u.out.cell (k := 0) (i := 2) rfl rfl
  go_wp2_with fail
  refine (KSB.out aS aM cS cM u5 (H5u.out.came HSM.out.1) (H5u.out.came HSM.out.2)).mono ?_
  rintro e w6 ⟨aB, bB, cB, dB, rfl, hiB, hjB, hb6⟩
  have H6 := Lib.hid (H5u.out.call hb6)
  replace HIP := Lib.hid (And.intro (HIP.out.1.later hb6) (HIP.out.2.later hb6))
  clear hb6 H5u hc0 hc1 hc2
  go_upto_region 11 with fail
  obtain ⟨v6, hv6⟩ : ∃ x, x = w6.alloc (.cells #[.slice aB SB.length cB, .slice bB MB.length dB, .int .i64 LB] 24) := ⟨_, rfl⟩
  rw [← hv6]
  have h6v : HH w v6 [(w.heap.size, rowO 24 [.slice aS S.length cS, .slice aM M.length cM, .int .i64 L]), (qA, rowO 24 [.slice aP SP.length cP, .slice bP MP.length dP, .int .i64 LP]), (w6.heap.size, rowO 24 [.slice aB SB.length cB, .slice bB MB.length dB, .int .i64 LB])] [] := by
    rw [hv6]; exact H6.out.alloc #[.slice aB SB.length cB, .slice bB MB.length dB, .int .i64 LB] 24 rfl rfl
  have HIB : Hid (BxAt v6 aB SB ∧ BxAt v6 bB MB) := Lib.hid (by rw [hv6]; exact ⟨hiB.alloc _, hjB.alloc _⟩)
  have HJP := HIP
  clear HIP
  have HIP : Hid (BxAt v6 aP SP ∧ BxAt v6 bP MP) := Lib.hid (by rw [hv6]; exact ⟨HJP.out.1.alloc _, HJP.out.2.alloc _⟩)
  clear HJP
  have H6v := Lib.hid h6v
  generalize w6.heap.size = qB at *
  clear hv6 h6v hiB hjB H6
  go_cut [17] (fun s0 wx => ∃ (aQ bQ : Option Addr) (cQ dQ : Nat), s0 = .int .i64 0 ∧ BxAt wx aQ SP ∧ BxAt wx bQ MP ∧ HH w wx [(w.heap.size, rowO 24 [.slice aS S.length cS, .slice aM M.length cM, .int .i64 L]), (qA, rowO 24 [.slice aP SP.length cP, .slice bP MP.length dP, .int .i64 LP]), (qB, rowO 24 [.slice aQ SP.length cQ, .slice bQ MP.length dQ, .int .i64 LP])] [] ∧ (BxAt wx aP SP ∧ BxAt wx bP MP))
  case first =>
    have Hd := Lib.hid H6v.out.drew
    have hc0 := Hd.out.cell (k := 2) (i := 0) rfl rfl
    have hc1 := Hd.out.cell (k := 2) (i := 1) rfl rfl
    have hc2 := Hd.out.cell (k := 2) (i := 2) rfl rfl
    have HC := Lib.hid (KSba.out aB bB cB dB v6.drew HIB.out.1.drew.at HIB.out.2.drew.at)
    clear H6v
    go_region_with (first
      | ((with_reducible refine (H7b.out _).mono ?_); rintro e wn ⟨rfl, rfl⟩)
      | ((with_reducible refine HC.out.mono ?_); rintro e w8 ⟨aQ, bQ, cQ, dQ, rfl, hi8, hj8, hb8⟩; have H8 := Lib.hid (Hd.out.call hb8); have HI8 := Lib.hid (And.intro hi8 hj8); have Hb8 := Lib.hid hb8; clear hb8 hi8 hj8 hc0 hc1 hc2; have hd0 := H8.out.cell (k := 2) (i := 0) rfl rfl; have hf0 := H8.out.frozen (k := 2) rfl 0; have hd1 := H8.out.cell (k := 2) (i := 1) rfl rfl; have hf1 := H8.out.frozen (k := 2) rfl 1; have hd2 := H8.out.cell (k := 2) (i := 2) rfl rfl; have hf2 := H8.out.frozen (k := 2) rfl 2))
    all_goals (go_wp2_with fail; go_meet)
    all_goals exact ⟨aQ, bQ, cQ, dQ, rfl, HI8.out.1.box (H8.out.row (k := 2) rfl) _ _ _, HI8.out.2.box (H8.out.row (k := 2) rfl) _ _ _, ((H8.out.set (k := 2) rfl 0 _).set (k := 2) rfl 1 _).set (k := 2) rfl 2 _, ⟨(HIP.out.1.drew.later Hb8.out).box (H8.out.row (k := 2) rfl) _ _ _, (HIP.out.2.drew.later Hb8.out).box (H8.out.row (k := 2) rfl) _ _ _⟩⟩
  case rest =>
  obtain ⟨u7, rfl⟩ : ∃ x, x = wc := ⟨_, rfl⟩
  clear HIP
  clear HIB
  clear H6v
  obtain ⟨aQ, bQ, cQ, dQ, rfl, hi, hj, hh, hkP⟩ := hcut
  have HIQ := Lib.hid (And.intro hi hj)
  have H7u := Lib.hid hh
  have HIP := Lib.hid hkP
  clear hkP
  clear hi hj hh
  have hc0 := H7u.out.cell (k := 1) (i := 0) rfl rfl
  have hc1 := H7u.out.cell (k := 1) (i := 1) rfl rfl
  have hc2 := H7u.out.cell (k := 1) (i := 2) rfl rfl
  have hd0 := H7u.out.cell (k := 2) (i := 0) rfl rfl
  have hd1 := H7u.out.cell (k := 2) (i := 1) rfl rfl
  have hd2 := H7u.out.cell (k := 2) (i := 2) rfl rfl
  go_wp2_with fail
  refine (KEP.out aP bP aQ bQ cP dP cQ dQ u7 HIP.out.1.at HIP.out.2.at HIQ.out.1.at HIQ.out.2.at).mono ?_
  rintro e wE ⟨rfl, hbE⟩
  have HE := Lib.hid (H7u.out.call hbE)
  clear hbE HIP HIQ H7u hc0 hc1 hc2 hd0 hd1 hd2
  have hc0 := HE.out.cell (k := 0) (i := 0) rfl rfl
  have hc1 := HE.out.cell (k := 0) (i := 1) rfl rfl
  have hc2 := HE.out.cell (k := 0) (i := 2) rfl rfl
  go_wp2_with fail
  refine (KOX.out aS aM cS cM wE (HE.out.came HSM.out.1) (HE.out.came HSM.out.2)).mono ?_
  rintro e w8 ⟨aX, bX, cX, dX, rfl, hiX, hjX, hb8⟩
  have H8 := Lib.hid (HE.out.call hb8)
  clear hb8 HE hc0 hc1 hc2
  go_upto_region 15 with fail
  obtain ⟨v8, hv8⟩ : ∃ x, x = w8.alloc (.cells #[.slice aX SX.length cX, .slice bX MX.length dX, .int .i64 L] 24) := ⟨_, rfl⟩
  rw [← hv8]
  have h8v : HH w v8 [(w.heap.size, rowO 24 [.slice aS S.length cS, .slice aM M.length cM, .int .i64 L]), (qA, rowO 24 [.slice aP SP.length cP, .slice bP MP.length dP, .int .i64 LP]), (qB, rowO 24 [.slice aQ SP.length cQ, .slice bQ MP.length dQ, .int .i64 LP]), (w8.heap.size, rowO 24 [.slice aX SX.length cX, .slice bX MX.length dX, .int .i64 L])] [] := by
    rw [hv8]; exact H8.out.alloc #[.slice aX SX.length cX, .slice bX MX.length dX, .int .i64 L] 24 rfl rfl
  have HIX : Hid (BxAt v8 aX SX ∧ BxAt v8 bX MX) := Lib.hid (by rw [hv8]; exact ⟨hiX.alloc _, hjX.alloc _⟩)
  have H8v := Lib.hid h8v
  generalize w8.heap.size = qX at *
  clear hv8 h8v hiX hjX H8
  have hc0 := H8v.out.cell (k := 3) (i := 0) rfl rfl
  have hc1 := H8v.out.cell (k := 3) (i := 1) rfl rfl
  have hc2 := H8v.out.cell (k := 3) (i := 2) rfl rfl
  go_wp2_with fail
  refine (KSX.out aX bX cX dX v8 HIX.out.1.at HIX.out.2.at).mono ?_
  rintro e w9 ⟨aY, bY, cY, dY, rfl, hiY, hjY, hb9⟩
  have H9 := Lib.hid (H8v.out.call hb9)
  replace HIX := Lib.hid (And.intro (HIX.out.1.later hb9) (HIX.out.2.later hb9))
  have HIY := Lib.hid (And.intro hiY hjY)
  clear hb9 hiY hjY H8v hc0 hc1 hc2 HIX
  have hd0 := H9.out.cell (k := 3) (i := 0) rfl rfl
  have hd1 := H9.out.cell (k := 3) (i := 1) rfl rfl
  have hd2 := H9.out.cell (k := 3) (i := 2) rfl rfl
  have hf0 := H9.out.frozen (k := 3) rfl 0
  have hf1 := H9.out.frozen (k := 3) rfl 1
  have hf2 := H9.out.frozen (k := 3) rfl 2
  go_upto_region 16 with fail
  obtain ⟨v9, hv9⟩ : ∃ x, x = ((w9.setCell ⟨qX, 0, none⟩ (.slice aY SY.length cY)).setCell ⟨qX, 1, none⟩ (.slice bY MY.length dY)).setCell ⟨qX, 2, none⟩ (.int .i64 LA) := ⟨_, rfl⟩
  rw [← hv9]
  have H9v : Hid (HH w v9 [(w.heap.size, rowO 24 [.slice aS S.length cS, .slice aM M.length cM, .int .i64 L]), (qA, rowO 24 [.slice aP SP.length cP, .slice bP MP.length dP, .int .i64 LP]), (qB, rowO 24 [.slice aQ SP.length cQ, .slice bQ MP.length dQ, .int .i64 LP]), (qX, rowO 24 [.slice aY SY.length cY, .slice bY MY.length dY, .int .i64 LA])] []) := Lib.hid (by
    rw [hv9]; exact ((H9.out.set (k := 3) rfl 0 _).set (k := 3) rfl 1 _).set (k := 3) rfl 2 _)
  have HJY := HIY
  clear HIY
  have HIY : Hid (BxAt v9 aY SY ∧ BxAt v9 bY MY) := Lib.hid (by rw [hv9]; exact ⟨HJY.out.1.box (H9.out.row (k := 3) rfl) _ _ _, HJY.out.2.box (H9.out.row (k := 3) rfl) _ _ _⟩)
  clear HJY
  clear hv9 H9 hd0 hd1 hd2 hf0 hf1 hf2
  have hc0 := H9v.out.cell (k := 0) (i := 0) rfl rfl
  have hc1 := H9v.out.cell (k := 0) (i := 1) rfl rfl
  have hc2 := H9v.out.cell (k := 0) (i := 2) rfl rfl
  go_wp2_with fail
  refine (KSA.out aS aM cS cM v9 (H9v.out.came HSM.out.1) (H9v.out.came HSM.out.2)).mono ?_
  rintro e w10 ⟨aC, bC, cC, dC, rfl, hiC, hjC, hb10⟩
  have H10 := Lib.hid (H9v.out.call hb10)
  replace HIY := Lib.hid (And.intro (HIY.out.1.later hb10) (HIY.out.2.later hb10))
  clear hb10 H9v hc0 hc1 hc2
  go_upto_region 17 with fail
  obtain ⟨v10, hv10⟩ : ∃ x, x = w10.alloc (.cells #[.slice aC SA.length cC, .slice bC MA.length dC, .int .i64 LA] 24) := ⟨_, rfl⟩
  rw [← hv10]
  have h10v : HH w v10 [(w.heap.size, rowO 24 [.slice aS S.length cS, .slice aM M.length cM, .int .i64 L]), (qA, rowO 24 [.slice aP SP.length cP, .slice bP MP.length dP, .int .i64 LP]), (qB, rowO 24 [.slice aQ SP.length cQ, .slice bQ MP.length dQ, .int .i64 LP]), (qX, rowO 24 [.slice aY SY.length cY, .slice bY MY.length dY, .int .i64 LA]), (w10.heap.size, rowO 24 [.slice aC SA.length cC, .slice bC MA.length dC, .int .i64 LA])] [] := by
    rw [hv10]; exact H10.out.alloc #[.slice aC SA.length cC, .slice bC MA.length dC, .int .i64 LA] 24 rfl rfl
  have HIC : Hid (BxAt v10 aC SA ∧ BxAt v10 bC MA) := Lib.hid (by rw [hv10]; exact ⟨hiC.alloc _, hjC.alloc _⟩)
  have HJY := HIY
  clear HIY
  have HIY : Hid (BxAt v10 aY SY ∧ BxAt v10 bY MY) := Lib.hid (by rw [hv10]; exact ⟨HJY.out.1.alloc _, HJY.out.2.alloc _⟩)
  clear HJY
  have H10v := Lib.hid h10v
  generalize w10.heap.size = qC at *
  clear hv10 h10v hiC hjC H10
  have hc0 := H10v.out.cell (k := 4) (i := 0) rfl rfl
  have hc1 := H10v.out.cell (k := 4) (i := 1) rfl rfl
  have hc2 := H10v.out.cell (k := 4) (i := 2) rfl rfl
  go_wp2_with fail
  refine (KOA.out aC bC cC dC v10 HIC.out.1.at HIC.out.2.at).mono ?_
  rintro e w11 ⟨aZ, bZ, cZ, dZ, rfl, hiZ, hjZ, hb11⟩
  have H11 := Lib.hid (H10v.out.call hb11)
  replace HIY := Lib.hid (And.intro (HIY.out.1.later hb11) (HIY.out.2.later hb11))
  replace HIC := Lib.hid (And.intro (HIC.out.1.later hb11) (HIC.out.2.later hb11))
  have HIZ := Lib.hid (And.intro hiZ hjZ)
  clear hb11 hiZ hjZ H10v hc0 hc1 hc2 HIC
  have hd0 := H11.out.cell (k := 4) (i := 0) rfl rfl
  have hd1 := H11.out.cell (k := 4) (i := 1) rfl rfl
  have hd2 := H11.out.cell (k := 4) (i := 2) rfl rfl
  have hf0 := H11.out.frozen (k := 4) rfl 0
  have hf1 := H11.out.frozen (k := 4) rfl 1
  have hf2 := H11.out.frozen (k := 4) rfl 2
  go_upto_region 18 with fail
  obtain ⟨v11, hv11⟩ : ∃ x, x = ((w11.setCell ⟨qC, 0, none⟩ (.slice aZ SY.length cZ)).setCell ⟨qC, 1, none⟩ (.slice bZ MY.length dZ)).setCell ⟨qC, 2, none⟩ (.int .i64 LA) := ⟨_, rfl⟩
  rw [← hv11]
  have H11v : Hid (HH w v11 [(w.heap.size, rowO 24 [.slice aS S.length cS, .slice aM M.length cM, .int .i64 L]), (qA, rowO 24 [.slice aP SP.length cP, .slice bP MP.length dP, .int .i64 LP]), (qB, rowO 24 [.slice aQ SP.length cQ, .slice bQ MP.length dQ, .int .i64 LP]), (qX, rowO 24 [.slice aY SY.length cY, .slice bY MY.length dY, .int .i64 LA]), (qC, rowO 24 [.slice aZ SY.length cZ, .slice bZ MY.length dZ, .int .i64 LA])] []) := Lib.hid (by
    rw [hv11]; exact ((H11.out.set (k := 4) rfl 0 _).set (k := 4) rfl 1 _).set (k := 4) rfl 2 _)
  have HJY := HIY
  clear HIY
  have HIY : Hid (BxAt v11 aY SY ∧ BxAt v11 bY MY) := Lib.hid (by rw [hv11]; exact ⟨HJY.out.1.box (H11.out.row (k := 4) rfl) _ _ _, HJY.out.2.box (H11.out.row (k := 4) rfl) _ _ _⟩)
  clear HJY
  have HJZ := HIZ
  clear HIZ
  have HIZ : Hid (BxAt v11 aZ SY ∧ BxAt v11 bZ MY) := Lib.hid (by rw [hv11]; exact ⟨HJZ.out.1.box (H11.out.row (k := 4) rfl) _ _ _, HJZ.out.2.box (H11.out.row (k := 4) rfl) _ _ _⟩)
  clear HJZ
  clear hv11 H11 hd0 hd1 hd2 hf0 hf1 hf2
  have hc0 := H11v.out.cell (k := 3) (i := 0) rfl rfl
  have hc1 := H11v.out.cell (k := 3) (i := 1) rfl rfl
  have hc2 := H11v.out.cell (k := 3) (i := 2) rfl rfl
  have hd0 := H11v.out.cell (k := 4) (i := 0) rfl rfl
  have hd1 := H11v.out.cell (k := 4) (i := 1) rfl rfl
  have hd2 := H11v.out.cell (k := 4) (i := 2) rfl rfl
  go_wp2_with fail
  refine (KEY.out aY bY aZ bZ cY dY cZ dZ v11 HIY.out.1.at HIY.out.2.at HIZ.out.1.at HIZ.out.2.at).mono ?_
  rintro e wF ⟨rfl, hbF⟩
  have HF := Lib.hid (H11v.out.call hbF)
  clear hbF
  go_wp2_with fail
  go_ret
  exact ⟨rfl, HF.out.below⟩
end Go.Proofs.Ytkopbcehfbmnmaa
