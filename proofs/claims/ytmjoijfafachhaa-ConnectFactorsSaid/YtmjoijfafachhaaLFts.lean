/- The walk of the law ConnectFactors. -/
import Derived.Test.YtmjoijfafachhaaROneW
import Derived.Test.YtmjoijfafachhaaFtsP
import Derived.Test.YtmjoijfafachhaaEqlW
import Derived.Test.YtmjoijfafachhaaBadW
import Derived.Test.YtmjoijfafachhaaRefValidW
import Derived.Test.YtmjoijfafachhaaGreatW
import Derived.Test.YtmjoijfafachhaaAwkW
namespace Go.Proofs.Ytmjoijfafachhaa
open Go Go.RowKit
set_option maxRecDepth 100000 in
set_option maxHeartbeats 2000000 in
theorem lfts_great (S M : List Int) (L : Int) (aS aM : Option Addr) (cS cM : Nat) (w : World) (hg : greatB S M L = true) :
    Calls Try.prog 7 #[.agg #[.slice aS S.length cS, .slice aM M.length cM, .int .i64 L]] w fun e w' => e = .returned (.bool true) ∧ Below w.heap.size w w' := by
  have HG : Hid (∀ W', Calls Try.prog 13 #[.agg #[.slice aS S.length cS, .slice aM M.length cM, .int .i64 L]] W' fun e w' => e = .returned (.bool true) ∧ Below W'.heap.size W' w') := Lib.hid fun W' => by
    have g := great_any S M L aS aM cS cM W'
    rw [hg] at g; exact g
  have H0 := Lib.hid ((HH.start w).alloc #[.slice aS S.length cS, .slice aM M.length cM, .int .i64 L] 24 rfl rfl)
  clear hg
  go_enter Try.func7, Try.ntmps7
  go_wp2_with fail
  refine (awake_any _).mono ?_
  rintro e w1 ⟨rfl, hb⟩
  have H1 := Lib.hid (H0.out.call hb)
  clear hb H0 
  have k00 := H1.out.cell (k := 0) (i := 0) rfl rfl
  have k01 := H1.out.cell (k := 0) (i := 1) rfl rfl
  have k02 := H1.out.cell (k := 0) (i := 2) rfl rfl
  go_wp2_with fail
  clear k00 k01 k02
  refine (HG.out _).mono ?_
  rintro e w2 ⟨rfl, hb⟩
  have H2 := Lib.hid (H1.out.call hb)
  clear hb H1 
  go_wp2_with fail
  go_ret
  exact ⟨rfl, H2.out.below⟩
set_option maxRecDepth 100000 in
set_option maxHeartbeats 2000000 in
theorem lfts_no (S M : List Int) (L : Int) (aS aM : Option Addr) (cS cM : Nat) (w : World) (hg : greatB S M L = false) (hv : vldB S M L = false) (hS : IntsAt w aS S) (hM : IntsAt w aM M) :
    Calls Try.prog 7 #[.agg #[.slice aS S.length cS, .slice aM M.length cM, .int .i64 L]] w fun e w' => e = .returned (.bool true) ∧ Below w.heap.size w w' := by
  obtain ⟨hg1, hg2⟩ := greatB_no hg
  have HG : Hid (∀ W', Calls Try.prog 13 #[.agg #[.slice aS S.length cS, .slice aM M.length cM, .int .i64 L]] W' fun e w' => e = .returned (.bool false) ∧ Below W'.heap.size W' w') := Lib.hid fun W' => by
    have g := great_any S M L aS aM cS cM W'
    rw [hg] at g; exact g
  have HRV : Hid (∀ W', Below w.heap.size w W' → Calls Try.prog 15 #[.agg #[.slice aS S.length cS, .slice aM M.length cM, .int .i64 L]] W' fun e w' => e = .returned (.bool false) ∧ Below W'.heap.size W' w') := Lib.hid fun W' h => by
    have g := rvalid_any S M L aS aM cS cM W' (by omega) (by omega) (hS.later h) (hM.later h)
    rw [hv] at g; exact g
  have HFc : Hid (∀ W', Below w.heap.size w W' → Calls Try.prog 33 #[.agg #[.slice aS S.length cS, .slice aM M.length cM, .int .i64 L]] W' fun e w' => e = .returned (.slice none 0 0) ∧ Below W'.heap.size W' w') := Lib.hid fun W' h => factors_no S M L aS aM cS cM W' (by omega) (by omega) hv (hS.later h) (hM.later h)
  have H0 := Lib.hid ((HH.start w).alloc #[.slice aS S.length cS, .slice aM M.length cM, .int .i64 L] 24 rfl rfl)
  clear hg hv hS hM
  generalize S.length = n at *
  generalize M.length = N at *
  go_enter Try.func7, Try.ntmps7
  go_wp2_with fail
  refine (awake_any _).mono ?_
  rintro e w1 ⟨rfl, hb⟩
  have H1 := Lib.hid (H0.out.call hb)
  clear hb H0 
  have k00 := H1.out.cell (k := 0) (i := 0) rfl rfl
  have k01 := H1.out.cell (k := 0) (i := 1) rfl rfl
  have k02 := H1.out.cell (k := 0) (i := 2) rfl rfl
  go_wp2_with fail
  clear k00 k01 k02
  refine (HG.out _).mono ?_
  rintro e w2 ⟨rfl, hb⟩
  have H2 := Lib.hid (H1.out.call hb)
  clear hb H1 
  have k00 := H2.out.cell (k := 0) (i := 0) rfl rfl
  have k01 := H2.out.cell (k := 0) (i := 1) rfl rfl
  have k02 := H2.out.cell (k := 0) (i := 2) rfl rfl
  go_wp2_with fail
  clear k00 k01 k02
  refine (HFc.out _ H2.out.below).mono ?_
  rintro e w3 ⟨rfl, hb⟩
  have H3 := Lib.hid (H2.out.call hb)
  clear hb H2 
  have k00 := H3.out.cell (k := 0) (i := 0) rfl rfl
  have k01 := H3.out.cell (k := 0) (i := 1) rfl rfl
  have k02 := H3.out.cell (k := 0) (i := 2) rfl rfl
  go_wp2_with fail
  clear k00 k01 k02
  refine (HRV.out _ H3.out.below).mono ?_
  rintro e w4 ⟨rfl, hb⟩
  have H4 := Lib.hid (H3.out.call hb)
  clear hb H3 
  go_wp2_with fail
  go_ret
  exact ⟨rfl, H4.out.below⟩
set_option maxRecDepth 100000 in
set_option maxHeartbeats 2000000 in
theorem lfts_yes (S M : List Int) (L : Int) (aS aM : Option Addr) (cS cM : Nat) (w : World) (hg : greatB S M L = false) (hv : vldB S M L = true) (hS : IntsAt w aS S) (hM : IntsAt w aM M) :
    Calls Try.prog 7 #[.agg #[.slice aS S.length cS, .slice aM M.length cM, .int .i64 L]] w fun e w' => e = .returned (.bool true) ∧ Below w.heap.size w w' := by
  obtain ⟨hg1, hg2⟩ := greatB_no hg
  have HG : Hid (∀ W', Calls Try.prog 13 #[.agg #[.slice aS S.length cS, .slice aM M.length cM, .int .i64 L]] W' fun e w' => e = .returned (.bool false) ∧ Below W'.heap.size W' w') := Lib.hid fun W' => by
    have g := great_any S M L aS aM cS cM W'
    rw [hg] at g; exact g
  have HRV : Hid (∀ W', Below w.heap.size w W' → Calls Try.prog 15 #[.agg #[.slice aS S.length cS, .slice aM M.length cM, .int .i64 L]] W' fun e w' => e = .returned (.bool true) ∧ Below W'.heap.size W' w') := Lib.hid fun W' h => by
    have g := rvalid_any S M L aS aM cS cM W' (by omega) (by omega) (hS.later h) (hM.later h)
    rw [hv] at g; exact g
  obtain ⟨hall, hcrs⟩ := factors_good hv
  have hTl := factors_len hv
  have HFc : Hid (∀ W', Below w.heap.size w W' → Calls Try.prog 33 #[.agg #[.slice aS S.length cS, .slice aM M.length cM, .int .i64 L]] W' fun e w' => ∃ A C, e = .returned (.slice A (factorsL S M L).length C) ∧ RdD w' A (factorsL S M L) ∧ Below W'.heap.size W' w') := Lib.hid fun W' h => (factors_yes S M L aS aM cS cM W' 0 (Nat.zero_le _) hv (hS.later h) (hM.later h)).mono fun e w' ⟨A, C, he, hd, hb⟩ => ⟨A, C, he, hd.rd, hb⟩
  have HRf : Hid (∀ W', Below w.heap.size w W' → Calls Try.prog 34 #[.agg #[.slice aS S.length cS, .slice aM M.length cM, .int .i64 L]] W' fun e w' => ∃ A C, e = .returned (.slice A (factorsL S M L).length C) ∧ RdD w' A (factorsL S M L) ∧ Below W'.heap.size W' w') := Lib.hid fun W' h => (rfactors_yes S M L aS aM cS cM W' 0 (Nat.zero_le _) hv (hS.later h) (hM.later h)).mono fun e w' ⟨A, C, he, hd, hb⟩ => ⟨A, C, he, hd.rd, hb⟩
  have hsz : ∀ d ∈ factorsL S M L, d.1.length ≤ 64 ∧ d.2.1.length ≤ 256 := fun d hd => by
    have h := vldB_shape (hall d hd).1
    have h1 := h.few
    have h2 := h.len
    exact ⟨h1, by omega⟩
  have HSm : Hid (∀ (A B : Option Addr) (C D : Nat) W', RdD W' A (factorsL S M L) → RdD W' B (factorsL S M L) → Calls Try.prog 17 #[.slice A (factorsL S M L).length C, .slice B (factorsL S M L).length D] W' fun e w' => e = .returned (.bool true) ∧ Below W'.heap.size W' w') := Lib.hid fun A B C D W' h1 h2 => same_any _ A B C D W' (by omega) (fun d hd => by have := hsz d hd; omega) h1 h2
  have hmem : ∀ i, i < (factorsL S M L).length → (factorsL S M L).getD i ([], [], 0) ∈ factorsL S M L := fun i hi => by
    rw [List.getD_eq_getElem?_getD, List.getElem?_eq_getElem hi]; exact List.getElem_mem _
  have HVi : Hid (∀ i, i < (factorsL S M L).length → ∀ (a b : Option Addr) (c d : Nat) W', IntsAt W' a ((factorsL S M L).getD i ([], [], 0)).1 → IntsAt W' b ((factorsL S M L).getD i ([], [], 0)).2.1 → Calls Try.prog 26 #[.agg #[.slice a ((factorsL S M L).getD i ([], [], 0)).1.length c, .slice b ((factorsL S M L).getD i ([], [], 0)).2.1.length d, .int .i64 ((factorsL S M L).getD i ([], [], 0)).2.2]] W' fun e w' => e = .returned (.bool true) ∧ Below W'.heap.size W' w') := Lib.hid fun i hi a b c d W' h1 h2 => by
    have hs := hsz _ (hmem i hi)
    have g := valid_any _ _ ((factorsL S M L).getD i ([], [], 0)).2.2 a b c d W' (by omega) (by omega) h1 h2
    rw [(hall _ (hmem i hi)).1] at g; exact g
  have HCi : Hid (∀ i, i < (factorsL S M L).length → ∀ (a b : Option Addr) (c d : Nat) W', IntsAt W' a ((factorsL S M L).getD i ([], [], 0)).1 → IntsAt W' b ((factorsL S M L).getD i ([], [], 0)).2.1 → Calls Try.prog 27 #[.agg #[.slice a ((factorsL S M L).getD i ([], [], 0)).1.length c, .slice b ((factorsL S M L).getD i ([], [], 0)).2.1.length d, .int .i64 ((factorsL S M L).getD i ([], [], 0)).2.2]] W' fun e w' => ∃ A C, e = .returned (.slice A 0 C) ∧ Below W'.heap.size W' w') := Lib.hid fun i hi a b c d W' h1 h2 => (cuts_yes _ _ ((factorsL S M L).getD i ([], [], 0)).2.2 a b c d W' (hall _ (hmem i hi)).1 h1 h2).mono fun e w' ⟨A, C, he, _, _, hb⟩ => ⟨A, C, by rw [he, (hall _ (hmem i hi)).2]; rfl, hb⟩
  have HSz : Hid (∀ i, i < (factorsL S M L).length → ((factorsL S M L).getD i ([], [], 0)).1.length ≤ 64) := Lib.hid fun i hi => (hsz _ (hmem i hi)).1
  have HCt : Hid (∀ i, i < (factorsL S M L).length → crs ((factorsL S M L).take (i + 1)) = crs ((factorsL S M L).take i) + ((factorsL S M L).getD i ([], [], 0)).1.length) := Lib.hid fun i hi => crs_take hi
  have HCn : Hid (crs (factorsL S M L) = S.length) := Lib.hid hcrs
  have H0 := Lib.hid ((HH.start w).alloc #[.slice aS S.length cS, .slice aM M.length cM, .int .i64 L] 24 rfl rfl)
  clear hg hv hS hM hall hcrs hsz hmem
  generalize factorsL S M L = T at *
  go_enter Try.func7, Try.ntmps7
  go_wp2_with fail
  refine (awake_any _).mono ?_
  rintro e w1 ⟨rfl, hb⟩
  have H1 := Lib.hid (H0.out.call hb)
  clear hb H0 
  have k00 := H1.out.cell (k := 0) (i := 0) rfl rfl
  have k01 := H1.out.cell (k := 0) (i := 1) rfl rfl
  have k02 := H1.out.cell (k := 0) (i := 2) rfl rfl
  go_wp2_with fail
  clear k00 k01 k02
  refine (HG.out _).mono ?_
  rintro e w2 ⟨rfl, hb⟩
  have H2 := Lib.hid (H1.out.call hb)
  clear hb H1 
  have k00 := H2.out.cell (k := 0) (i := 0) rfl rfl
  have k01 := H2.out.cell (k := 0) (i := 1) rfl rfl
  have k02 := H2.out.cell (k := 0) (i := 2) rfl rfl
  go_wp2_with fail
  clear k00 k01 k02
  refine (HFc.out _ H2.out.below).mono ?_
  rintro e w3 ⟨A3, C3, rfl, hd, hb⟩
  have H3 := Lib.hid (H2.out.call hb)
  have O3 : Hid (∀ W', Below w3.heap.size w3 W' → RdD W' A3 T ∧ HH w W' [(w.heap.size, rowO 24 [.slice aS S.length cS, .slice aM M.length cM, .int .i64 L])] []) := Lib.hid fun W' h => ⟨hd.later h, H3.out.call h⟩
  clear hd hb H2 HFc
  have k00 := H3.out.cell (k := 0) (i := 0) rfl rfl
  have k01 := H3.out.cell (k := 0) (i := 1) rfl rfl
  have k02 := H3.out.cell (k := 0) (i := 2) rfl rfl
  go_wp2_with fail
  clear k00 k01 k02
  refine (HRV.out _ H3.out.below).mono ?_
  rintro e w4 ⟨rfl, hb⟩
  have H4 := Lib.hid (H3.out.call hb)
  have B4 := Lib.hid hb
  clear hb H3 
  go_wp2_with fail
  go_loopg [21, 4] T.length (fun g v s4 wr => ∃ (i q : Nat), i ≤ T.length ∧ g = T.length - i ∧ v = .int .i64 i ∧ s4 = .int .i64 (q : Int) ∧ q ≤ 64 * i ∧ Hid (q = crs (T.take i)) ∧ Below w3.heap.size w3 wr)
  case atStart => exact ⟨0, 0, Nat.zero_le _, rfl, rfl, rfl, Nat.zero_le _, Lib.hid rfl, B4.out⟩
  case round =>
    obtain ⟨i, q, hi, rfl, rfl, rfl, hq, Hq, hbw⟩ := hrel
    have Bw := Lib.hid hbw
    clear hbw B4 H4
    by_cases hil : i < T.length
    · obtain ⟨b, o, a, c, e, f, rfl, h1, h2, h3, h4, h5⟩ := (O3.out _ Bw.out).1 i _ (getD_some (d := ([], [], 0)) hil)
      have HVx := Lib.hid (HVi.out i hil a e c f)
      have HCx := Lib.hid (HCi.out i hil a e c f)
      have HQx := Lib.hid (HCt.out i hil)
      have hsz := HSz.out i hil
      generalize T.getD i ([], [], 0) = dd at *
      obtain ⟨Sd, Md, Ld⟩ := dd
      dsimp only at *
      have HI := Lib.hid (And.intro h4 h5)
      clear h4 h5
      generalize Sd.length = sl at *
      generalize Md.length = ml at *
      have J0 := Lib.hid ((HH.start wr).alloc #[.slice a sl c, .slice e ml f, .int .i64 Ld] 24 rfl rfl)
      go_upto_region 12 with fail
      clear h1 h2 h3
      have k0 := J0.out.cell (k := 0) (i := 0) rfl rfl
      have k1 := J0.out.cell (k := 0) (i := 1) rfl rfl
      have k2 := J0.out.cell (k := 0) (i := 2) rfl rfl
      generalize wr.alloc (.cells #[.slice a sl c, .slice e ml f, .int .i64 Ld] 24) = v1 at *
      generalize wr.heap.size = r at *
      go_wp2_with fail
      clear k0 k1 k2
      refine (HVx.out _ (HI.out.1.later J0.out.below) (HI.out.2.later J0.out.below)).mono ?_
      rintro e5 w5 ⟨rfl, hb⟩
      have J1 := Lib.hid (J0.out.call hb)
      clear hb J0
      have k0 := J1.out.cell (k := 0) (i := 0) rfl rfl
      have k1 := J1.out.cell (k := 0) (i := 1) rfl rfl
      have k2 := J1.out.cell (k := 0) (i := 2) rfl rfl
      go_wp2_with fail
      clear k0 k1 k2
      refine (HCx.out _ (HI.out.1.later J1.out.below) (HI.out.2.later J1.out.below)).mono ?_
      rintro e6 w6 ⟨A6, C6, rfl, hb⟩
      have J2 := Lib.hid (J1.out.call hb)
      clear hb J1
      go_wp2_with fail
      go_roundg (T.length - (i + 1))
      case measure => omega
      case rel => exact ⟨i + 1, q + sl, by omega, rfl, by go_num, by go_num, by omega, Lib.hid (by rw [HQx.out, Hq.out]), below_step Bw.out J2.out.below⟩
    · obtain rfl : i = T.length := by omega
      have hqe : q = S.length := by rw [Hq.out, List.take_length]; exact HCn.out
      subst hqe
      have Hw := Lib.hid (O3.out _ Bw.out)
      have k0 := Hw.out.2.cell (k := 0) (i := 0) rfl rfl
      have k1 := Hw.out.2.cell (k := 0) (i := 1) rfl rfl
      have k2 := Hw.out.2.cell (k := 0) (i := 2) rfl rfl
      go_wp2_with fail
      clear k0 k1 k2
      refine (HRf.out _ Hw.out.2.below).mono ?_
      rintro e w7 ⟨A7, C7, rfl, hd, hb⟩
      have H7 := Lib.hid (Hw.out.2.call hb)
      have R7 := Lib.hid (And.intro (Hw.out.1.later hb) hd)
      clear hd hb Hw
      go_wp2_with fail
      refine (HSm.out A3 A7 C3 C7 _ R7.out.1 R7.out.2).mono ?_
      rintro e w8 ⟨rfl, hb⟩
      have H8 := Lib.hid (H7.out.call hb)
      clear hb H7
      go_wp2_with fail
      go_ret
      exact ⟨rfl, H8.out.below⟩
theorem lfts_any (S M : List Int) (L : Int) (aS aM : Option Addr) (cS cM : Nat) (w : World) (_ : S.length ≤ maxLen) (_ : M.length ≤ maxLen) (_ : (Lit.int .i64 L).wf = true) (hS : IntsAt w aS S) (hM : IntsAt w aM M) :
    Calls Try.prog 7 #[.agg #[.slice aS S.length cS, .slice aM M.length cM, .int .i64 L]] w fun e w' => e = .returned (.bool true) ∧ Below w.heap.size w w' := by
  cases hg : greatB S M L
  · cases hv : vldB S M L
    · exact lfts_no S M L aS aM cS cM w hg hv hS hM
    · exact lfts_yes S M L aS aM cS cM w hg hv hS hM
  · exact lfts_great S M L aS aM cS cM w hg
end Go.Proofs.Ytmjoijfafachhaa
