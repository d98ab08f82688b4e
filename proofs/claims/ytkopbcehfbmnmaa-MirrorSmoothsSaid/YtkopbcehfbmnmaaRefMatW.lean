/- The walks of the linking reference: Writhe, Matrix. -/
import Derived.Test.YtkopbcehfbmnmaaRefLinkW
import Derived.Test.YtkopbcehfbmnmaaLinkPlainA
namespace Go.Proofs.Ytkopbcehfbmnmaa
open Go Go.RowKit
set_option maxRecDepth 100000 in
set_option maxHeartbeats 4000000 in
theorem rwrithe_any (S M : List Int) (L : Int) (aS aM : Option Addr) (cS cM : Nat) (w : World) (hv : vldB S M L = true) (hS : IntsAt w aS S) :
    Calls Try.prog 37 #[.agg #[.slice aS S.length cS, .slice aM M.length cM, .int .i64 L]] w fun e w' => e = .returned (.int .i64 (sumTo S (ownF (strandsL S M L)) (fun _ _ => true) S.length)) ∧ Below w.heap.size w w' := by
  have hfew := (vldB_shape hv).few
  have Hsg := Lib.hid (sign_bd hv)
  have hB : Below w.heap.size w (w.alloc (.cells #[.slice aS S.length cS, .slice aM M.length cM, .int .i64 L] 24)) := (Below.refl _ _).alloc (Nat.le_refl _) _
  obtain ⟨W, hW⟩ : ∃ W, W = w.alloc (.cells #[.slice aS S.length cS, .slice aM M.length cM, .int .i64 L] 24) := ⟨_, rfl⟩
  have hbox : Row W w.heap.size 24 [.slice aS S.length cS, .slice aM M.length cM, .int .i64 L] := by rw [hW]; exact Row.new w #[.slice aS S.length cS, .slice aM M.length cM, .int .i64 L] 24
  have hS2 : IntsAt W aS S := by rw [hW]; exact hS.later hB
  have hc0 := hbox.cell 0
  simp only [List.getElem?_cons_zero] at hc0
  have HB : Hid (Below w.heap.size w W) := Lib.hid (by rw [hW]; exact hB)
  have HS := Lib.hid hS2
  clear hv hS hbox hB hS2
  generalize ownF (strandsL S M L) = f at *
  go_enter Try.func37, Try.ntmps37
  go_wp2_with fail
  rw [← hW]
  clear hW
  go_loopg [4, 3] S.length (fun g c n wr => ∃ j : Nat, j ≤ S.length ∧ g = S.length - j ∧ c = .int .i64 j ∧ n = .int .i64 (sumTo S f (fun _ _ => true) j) ∧ wr = W)
  case atStart => exact ⟨0, Nat.zero_le _, rfl, rfl, rfl, rfl⟩
  case round =>
    obtain ⟨j, hj, rfl, rfl, rfl, rfl⟩ := hrel
    have hbd := sumTo_bd S f (fun _ _ => true) Hsg.out j
    by_cases hjl : j < S.length
    · have Hst : Hid (sumTo S f (fun _ _ => true) (j + 1) = sumTo S f (fun _ _ => true) j + nth S j) := Lib.hid rfl
      have hsj := Hsg.out j
      generalize sumTo S f (fun _ _ => true) j = t at *
      obtain ⟨b, off, rfl, _, hcS⟩ := HS.out.open (by omega)
      have hcj := hcS j hjl
      generalize nth S j = x at *
      clear hcS
      go_wp2_with fail
      go_roundg (S.length - (j + 1))
      case measure => omega
      case rel => exact ⟨j + 1, by omega, rfl, by go_num, by rw [Hst.out], rfl⟩
    · obtain rfl : j = S.length := by omega
      go_wp2_with fail
      go_ret
      exact ⟨rfl, HB.out⟩
theorem compsN_nat {S M : List Int} {L : Int} (hv : vldB S M L = true) : ∃ N : Nat, compsN S M L = (N : Int) ∧ N ≤ 1000 ∧ (strandsL S M L).length ≤ N := by
  have hs := vldB_shape hv
  have h1 := (strandsL_lists hv).few
  have h2 := hs.few
  have h3 := hs.lo
  have h4 := hs.hi
  have h5 : compsN S M L = ((strandsL S M L).length : Int) + L := if_pos hv
  exact ⟨(strandsL S M L).length + L.toNat, by omega, by omega, by omega⟩
theorem pr_bd {S M : List Int} {L : Int} (hv : vldB S M L = true) (f : Nat → Int × Int) (i k : Nat) : -64 ≤ pr S f i k ∧ pr S f i k ≤ 64 := by
  have h := sumTo_bd S f (isPair i k) (sign_bd hv) S.length
  have := (vldB_shape hv).few
  unfold pr; omega
theorem tdiv2_bd (x : Int) (h : -64 ≤ x ∧ x ≤ 64) : -64 ≤ x.tdiv 2 ∧ x.tdiv 2 ≤ 64 := by
  rcases Int.lt_or_le x 0 with g | g
  · have : x.tdiv 2 = -((-x).tdiv 2) := by rw [Int.neg_tdiv]; omega
    rw [this, Int.tdiv_eq_ediv_of_nonneg (by omega)]; omega
  · rw [Int.tdiv_eq_ediv_of_nonneg g]; omega
theorem matE_bd {S M : List Int} {L : Int} (hv : vldB S M L = true) (f : Nat → Int × Int) (i k : Nat) : -64 ≤ matE S f i k ∧ matE S f i k ≤ 64 := by
  have h := pr_bd hv f i k
  unfold matE
  split
  · exact h
  · exact tdiv2_bd _ h
set_option maxRecDepth 100000 in
set_option maxHeartbeats 4000000 in
theorem rmatrix_any (S M : List Int) (L : Int) (aS aM : Option Addr) (cS cM N : Nat) (w : World) (hv : vldB S M L = true) (hN : compsN S M L = (N : Int)) (hNl : N ≤ 1000) (hS : IntsAt w aS S) (hM : IntsAt w aM M) :
    Calls Try.prog 36 #[.agg #[.slice aS S.length cS, .slice aM M.length cM, .int .i64 L]] w fun e w' => ∃ a c, e = .returned (.slice a N c) ∧ Below w.heap.size w w' ∧ OwnRows w' w.heap.size a c (matL S (ownF (strandsL S M L)) N) := by
  obtain ⟨i0, hi0, hz0, hz1, hz2⟩ := info_parts Try.info3
  obtain ⟨i1, hi1, hy0, hy1, hy2⟩ := info_parts Try.info22
  have hB : Below w.heap.size w (w.alloc (.cells #[.slice aS S.length cS, .slice aM M.length cM, .int .i64 L] 24)) := (Below.refl _ _).alloc (Nat.le_refl _) _
  obtain ⟨W, hW⟩ : ∃ W, W = w.alloc (.cells #[.slice aS S.length cS, .slice aM M.length cM, .int .i64 L] 24) := ⟨_, rfl⟩
  have Hbox : Hid (Row W w.heap.size 24 [.slice aS S.length cS, .slice aM M.length cM, .int .i64 L]) := Lib.hid (by rw [hW]; exact Row.new w #[.slice aS S.length cS, .slice aM M.length cM, .int .i64 L] 24)
  have HB : Hid (Below w.heap.size w W) := Lib.hid (by rw [hW]; exact hB)
  have HS := Lib.hid hS
  have HM := Lib.hid hM
  have Hv := Lib.hid hv
  have Hpr := Lib.hid (fun i k => pr_bd hv (ownF (strandsL S M L)) i k)
  have HC : Hid (Calls Try.prog 58 #[.agg #[.slice aS S.length cS, .slice aM M.length cM, .int .i64 L]] W fun e w' => e = .returned (.int .i64 (N : Int)) ∧ Below W.heap.size W w') := Lib.hid (by
    rw [← hN]
    exact rcomponents_any S M L aS aM cS cM W hv (HS.out.later HB.out) (HM.out.later HB.out))
  clear hB hS hM hv hN
  go_enter Try.func36, Try.ntmps36
  go_wp2_with fail
  rw [← hW]
  refine HC.out.mono ?_
  rintro e w1 ⟨rfl, hb1⟩
  have Hb1 := Lib.hid (below_step HB.out hb1)
  have Hbx1 := Lib.hid (Hbox.out.later hb1 Hbox.out.lt)
  clear hb1 HC HB Hbox hW
  go_wp2_with fail
  go_loopg [5, 4] N (fun g i av wr => ∃ (k : Nat) (A : Option Addr) (c : Nat), k ≤ N ∧ g = N - k ∧ i = .int .i64 k ∧ av = .slice A k c ∧ OwnRows wr w.heap.size A c (tab (matE S (ownF (strandsL S M L))) k N) ∧ Below w.heap.size w wr ∧ Row wr w.heap.size 24 [.slice aS S.length cS, .slice aM M.length cM, .int .i64 L])
  case atStart => exact ⟨0, none, 0, Nat.zero_le _, rfl, rfl, rfl, OwnRows.nil _ _, Hb1.out, Hbx1.out⟩
  case round =>
    obtain ⟨k, A, c, hk, rfl, rfl, rfl, hown, hb, hbox⟩ := hrel
    have Hown := Lib.hid hown
    have Hb := Lib.hid hb
    have Hbox := Lib.hid hbox
    have hsz := hb.size
    clear hown hbox hb
    by_cases hlt : k < N
    · obtain ⟨wo, rfl⟩ : ∃ x, x = wr := ⟨wr, rfl⟩
      go_wp2_with fail
      go_loopg [7, 6] N (fun g i rv wr => ∃ (j : Nat) (A2 : Option Addr) (c2 : Nat), j ≤ N ∧ g = N - j ∧ i = .int .i64 j ∧ rv = .slice A2 j c2 ∧ Own wr wo.heap.size 3 A2 c2 (ints ((List.range j).map fun q => matE S (ownF (strandsL S M L)) k q)) ∧ Below wo.heap.size wo wr)
      case atStart => exact ⟨0, none, 0, Nat.zero_le _, rfl, rfl, rfl, Own.nil _ _ _, Below.refl _ _⟩
      case round =>
        obtain ⟨j, A2, c2, hj, rfl, rfl, rfl, hrow, hbi⟩ := hrel
        have Hrow := Lib.hid hrow
        have Hbi := Lib.hid hbi
        have hszi := hbi.size
        have Hbxi := Lib.hid (Hbox.out.later hbi Hbox.out.lt)
        clear hrow hbi
        by_cases hjl : j < N
        · have hc0 := Hbxi.out.cell 0
          have hc1 := Hbxi.out.cell 1
          have hc2 := Hbxi.out.cell 2
          simp only [List.getElem?_cons_succ, List.getElem?_cons_zero] at hc0 hc1 hc2
          have HR := Lib.hid (rsum_any S M L aS aM cS cM k j wr Hv.out (HS.out.later (below_step Hb.out Hbi.out)) (HM.out.later (below_step Hb.out Hbi.out)))
          have hbd := Hpr.out k j
          have hrl : ((List.range j).map fun q => matE S (ownF (strandsL S M L)) k q).length = j := row_len _ _
          have Hsn := Lib.hid (row_snoc (fun q => matE S (ownF (strandsL S M L)) k q) j)
          generalize hF : ((List.range j).map fun q => matE S (ownF (strandsL S M L)) k q) = row at *
          have Hrl := Lib.hid hrl
          clear hrl hF
          by_cases hkj : k = j
          · have Hme : Hid (matE S (ownF (strandsL S M L)) k j = pr S (ownF (strandsL S M L)) k j) := Lib.hid (if_pos hkj)
            have HR2 : Hid (Calls Try.prog 106 #[.agg #[.slice aS S.length cS, .slice aM M.length cM, .int .i64 L], .int .i64 (k : Int), .int .i64 (k : Int)] wr fun e w' => e = .returned (.int .i64 (pr S (ownF (strandsL S M L)) k j)) ∧ Below wr.heap.size wr w') := Lib.hid (by
              have := HR.out
              rw [← hkj] at this
              rw [← hkj]
              exact this)
            have t1 : ((k : Int) == (j : Int)) = true := by rw [beq_iff_eq]; omega
            generalize pr S (ownF (strandsL S M L)) k j = x at *
            clear hkj HR
            go_wp2_with fail
            refine HR2.out.mono ?_
            rintro e w2 ⟨rfl, hb2⟩
            have Hb2 := Lib.hid (below_step Hbi.out hb2)
            have hs2 := hb2.size
            have Hrow2 := Lib.hid (Hrow.out.later hb2 (Nat.le_refl _))
            have Hcell : Hid ((w2.alloc (.cells #[.int .i64 x] 3)).cell? ⟨w2.heap.size, 0, none⟩ = some (.int .i64 x)) := Lib.hid (by simp)
            clear hb2 HR2 hc0 hc1 hc2 Hrow
            go_wp2_with (with_reducible refine wpList_append_one rfl (.tmp 23) (.tmp 28) 22 rfl wo.heap.size 3 i0 (.int .i64 0) 8 Try.underlying22 hi0 hz0 hz1 hz2 rfl A2 j c2 _ rfl ((ints_length _).trans Hrl.out) (Hrow2.out.alloc _) _ 1 (.int .i64 x) rfl Hcell.out rfl (by omega) (by omega) (by simp; omega) ?_; intro A3 c3 w3 hO3 hT3 hA3)
            have hb3 : Below wo.heap.size wo w3 := (Hb2.out.alloc (by omega) _).trans (hT3.below (by simp; omega) (fun y hy => (Hrow2.out.lt hy).1))
            go_roundg (N - (j + 1))
            case measure => omega
            case rel => exact ⟨j + 1, A3, c3, by omega, rfl, by go_num, rfl, by rw [← Hsn.out, Hme.out, ← ints_snoc]; exact hO3, hb3⟩
          · have Hme : Hid (matE S (ownF (strandsL S M L)) k j = (pr S (ownF (strandsL S M L)) k j).tdiv 2) := Lib.hid (if_neg hkj)
            have HR2 : Hid (Calls Try.prog 106 #[.agg #[.slice aS S.length cS, .slice aM M.length cM, .int .i64 L], .int .i64 (k : Int), .int .i64 (j : Int)] wr fun e w' => e = .returned (.int .i64 (pr S (ownF (strandsL S M L)) k j)) ∧ Below wr.heap.size wr w') := HR
            have t1 : ((k : Int) == (j : Int)) = false := by rw [beq_eq_false_iff_ne]; omega
            generalize pr S (ownF (strandsL S M L)) k j = x at *
            clear hkj HR
            go_wp2_with fail
            refine HR2.out.mono ?_
            rintro e w2 ⟨rfl, hb2⟩
            have Hb2 := Lib.hid (below_step Hbi.out hb2)
            have hs2 := hb2.size
            have Hrow2 := Lib.hid (Hrow.out.later hb2 (Nat.le_refl _))
            have Hcell : Hid ((w2.alloc (.cells #[.int .i64 (x.tdiv 2)] 3)).cell? ⟨w2.heap.size, 0, none⟩ = some (.int .i64 (x.tdiv 2))) := Lib.hid (by simp)
            clear hb2 HR2 hc0 hc1 hc2 Hrow
            go_wp2_with (with_reducible refine wpList_append_one rfl (.tmp 30) (.tmp 36) 22 rfl wo.heap.size 3 i0 (.int .i64 0) 8 Try.underlying22 hi0 hz0 hz1 hz2 rfl A2 j c2 _ rfl ((ints_length _).trans Hrl.out) (Hrow2.out.alloc _) _ 1 (.int .i64 (x.tdiv 2)) rfl Hcell.out rfl (by omega) (by omega) (by simp; omega) ?_; intro A3 c3 w3 hO3 hT3 hA3)
            have hb3 : Below wo.heap.size wo w3 := (Hb2.out.alloc (by omega) _).trans (hT3.below (by simp; omega) (fun y hy => (Hrow2.out.lt hy).1))
            go_roundg (N - (j + 1))
            case measure => omega
            case rel => exact ⟨j + 1, A3, c3, by omega, rfl, by go_num, rfl, by rw [← Hsn.out, Hme.out, ← ints_snoc]; exact hO3, hb3⟩
        · obtain rfl : j = N := by omega
          have Hown2 := Lib.hid (Hown.out.later Hbi.out (Nat.le_refl _))
          obtain ⟨vs, hvs, hro⟩ := Hown2.out
          have hvl := hro.1
          rw [tab_len] at hvl
          have hrl : ((List.range j).map fun q => matE S (ownF (strandsL S M L)) k q).length = j := row_len _ _
          have hsn := hro.snoc (Hrow.out.mono hsz)
          rw [hrl] at hsn
          have Hvs := Lib.hid hvs
          have Hsn := Lib.hid hsn
          have Hvl := Lib.hid hvl
          have hsz3 : w.heap.size ≤ wr.heap.size := by omega
          clear hsn hro hvs hrl hvl
          go_wp2_with (with_reducible refine wpList_append_one rfl (.tmp 38) (.tmp 40) 30 rfl w.heap.size 22 i1 (.slice none 0 0) 24 Try.underlying30 hi1 hy0 hy1 hy2 rfl A _ c vs rfl Hvl.out (Hvs.out.alloc _) _ 1 (.slice A2 j c2) rfl (by simp) rfl (by omega) (by omega) (by simp; omega) ?_; intro A3 c3 w3 hO3 hT3 hA3)
          have hb3 : Below w.heap.size w w3 := ((below_step Hb.out Hbi.out).alloc (by omega) _).trans (hT3.below (by simp; omega) (fun y hy => (Hvs.out.lt hy).1))
          go_roundg (j - (k + 1))
          case measure => omega
          case rel =>
            refine ⟨k + 1, A3, c3, by omega, rfl, by go_num, rfl, ?_, hb3, ?_⟩
            · rw [← tab_snoc]
              exact ⟨_, hO3, (Hsn.out.alloc _).turned (Hvs.out.alloc _) (by decide) hT3⟩
            · exact (Hbxi.out.alloc _).turnedT (Hvs.out.alloc _) (by decide) hT3
    · obtain rfl : k = N := by omega
      go_wp2_with fail
      go_ret
      exact ⟨A, c, rfl, Hb.out, Hown.out⟩
end Go.Proofs.Ytkopbcehfbmnmaa
