/- The walks of the reference's Faces and Strands. -/
import Derived.Test.YtkopbcehfbmnmaaRefFaceW
import Derived.Test.YtkopbcehfbmnmaaCyclesW
namespace Go.Proofs.Ytkopbcehfbmnmaa
open Go Go.RowKit
theorem leastB_to (f per : Nat → Nat) (h : Nat) : leastB f per h = leastTo f h (per h) := rfl
set_option maxRecDepth 100000 in
set_option maxHeartbeats 4000000 in
theorem faces_any (M : List Int) (n : Nat) (aM : Option Addr) (cM : Nat) (w : World) (hn : n ≤ 1000) (hl : M.length = 4 * n) (hm : MateOk M n) (hM : IntsAt w aM M) :
    Calls Try.prog 102 #[.slice aM M.length cM] w fun e w' => ∃ a c, e = .returned (.slice a (clTo (fb M (-1)) (perOf (fb M (-1)) (4 * n)) (fun _ => true) (4 * n)).length c) ∧ Below w.heap.size w w' ∧ OwnRows w' w.heap.size a c ((clTo (fb M (-1)) (perOf (fb M (-1)) (4 * n)) (fun _ => true) (4 * n)).map nats) := by
  obtain ⟨i1, hi1, hy0, hy1, hy2⟩ := info_parts Try.info22
  have Hinj := Lib.hid (hm.injB (-1) (by omega))
  have Hm := Lib.hid hm
  have HL := Lib.hid hl
  have HM := Lib.hid hM
  have hM1 : M.length ≤ 4 * n := by omega
  have hM2 : 4 * n ≤ M.length := by omega
  clear hl hm hM
  go_enter Try.func102, Try.ntmps102
  go_wp2_with fail
  go_loopg [4, 3] (4 * n) (fun g i av wr => ∃ (k : Nat) (A : Option Addr) (c : Nat), k ≤ 4 * n ∧ g = 4 * n - k ∧ i = .int .i64 k ∧ av = .slice A (clTo (fb M (-1)) (perOf (fb M (-1)) (4 * n)) (fun _ => true) k).length c ∧ OwnRows wr w.heap.size A c ((clTo (fb M (-1)) (perOf (fb M (-1)) (4 * n)) (fun _ => true) k).map nats) ∧ Below w.heap.size w wr)
  case atStart => exact ⟨0, none, 0, Nat.zero_le _, rfl, rfl, by simp [clTo], by simpa [clTo] using OwnRows.nil w w.heap.size, Below.refl _ _⟩
  case round =>
    obtain ⟨k, A, c, hk, rfl, rfl, rfl, hown, hb⟩ := hrel
    have hsz := hb.size
    have hcl := clTo_len (fb M (-1)) (perOf (fb M (-1)) (4 * n)) (fun _ => true) k
    have Hsucc := Lib.hid (clTo_succ (fb M (-1)) (perOf (fb M (-1)) (4 * n)) (fun _ => true) k)
    generalize hst : clTo (fb M (-1)) (perOf (fb M (-1)) (4 * n)) (fun _ => true) k = st at *
    have Hst := Lib.hid hst; clear hst
    have Hown := Lib.hid hown; clear hown
    by_cases hlt : k < 4 * n
    · have hpp := perOf_le (fb M (-1)) (4 * n) k (by omega)
      have Hper := Lib.hid (perOf_spec Hinj.out k hlt)
      have Hlst := Lib.hid (leastB_to (fb M (-1)) (perOf (fb M (-1)) (4 * n)) k)
      generalize perOf (fb M (-1)) (4 * n) k = p at *
      go_wp2_with fail
      refine (face_any M n aM cM wr k p hn HL.out Hm.out hlt (HM.out.later hb) Hper.out hpp).mono ?_
      rintro e w2 ⟨A2, c2, rfl, hb2, hO2⟩
      have hb2' := below_step hb hb2
      have hsz2 := hb2'.size
      have Hown2 := Lib.hid (Hown.out.later hb2 (Nat.le_refl _))
      have HO2 := Lib.hid (hO2.mono hsz)
      clear hO2 Hown hb2 hb
      go_wp2_with fail
      go_loopg [7, 6] p (fun g i lv wi => ∃ j : Nat, j ≤ p ∧ g = p - j ∧ i = .int .i64 j ∧ lv = .bool (leastTo (fb M (-1)) k j) ∧ wi = w2)
      case atStart => exact ⟨0, Nat.zero_le _, rfl, rfl, rfl, rfl⟩
      case round =>
        obtain ⟨j, hj, rfl, rfl, rfl, rfl⟩ := hrel
        have hlen : (orb (fb M (-1)) k p).length = p := orb_length _ _ _
        by_cases hjl : j < p
        · obtain ⟨b, off, rfl, hB, hbl, hcell, _⟩ := HO2.out.open (by rw [ints_length, nats_length, hlen]; omega)
          have hcj := hcell j _ (ints_get _ _ (by rw [nats_length, hlen]; exact hjl))
          rw [nth_nats _ _ (by rw [hlen]; exact hjl), orb_getD _ _ _ _ hjl] at hcj
          have Hls := Lib.hid (leastTo_succ (fb M (-1)) k j)
          generalize iter (fb M (-1)) j k = x at *
          clear hcell hlen
          by_cases hls : leastTo (fb M (-1)) k j = true
          · have HLs : Hid (leastTo (fb M (-1)) k (j + 1) = decide (k ≤ x)) := Lib.hid (by rw [Hls.out, hls, Bool.true_and])
            rw [hls]
            clear hls
            go_wp2_with fail
            go_roundg (p - (j + 1))
            case measure => omega
            case rel => exact ⟨j + 1, by omega, rfl, by go_num, by rw [HLs.out], rfl⟩
          · have hls2 : leastTo (fb M (-1)) k j = false := by simpa using hls
            have HLs : Hid (leastTo (fb M (-1)) k (j + 1) = false) := Lib.hid (by rw [Hls.out, hls2, Bool.false_and])
            rw [hls2]
            clear hls hls2
            go_wp2_with fail
            go_roundg (p - (j + 1))
            case measure => omega
            case rel => exact ⟨j + 1, by omega, rfl, by go_num, by rw [HLs.out], rfl⟩
        · obtain rfl : j = p := by omega
          clear hlen
          rw [← Hlst.out]
          by_cases hls : leastB (fb M (-1)) (perOf (fb M (-1)) (4 * n)) k = true
          · have HE : Hid (clTo (fb M (-1)) (perOf (fb M (-1)) (4 * n)) (fun _ => true) (k + 1) = st ++ [orb (fb M (-1)) k j]) := Lib.hid (by rw [Hsucc.out, if_pos (by simpa using hls)])
            rw [hls]
            clear hls
            obtain ⟨vs, hvs, hro⟩ := Hown2.out
            have hvl := hro.1
            simp only [List.length_map] at hvl
            have hs3 : (nats (orb (fb M (-1)) k j)).length = j := by rw [nats_length, orb_length]
            have hsn := hro.snoc HO2.out
            rw [hs3] at hsn
            have Hvs := Lib.hid hvs
            have Hsn := Lib.hid hsn
            clear hsn hro hvs hs3
            go_wp2_with (with_reducible refine wpList_append_one rfl (.tmp 33) (.tmp 35) 30 rfl w.heap.size 22 i1 (.slice none 0 0) 24 Try.underlying30 hi1 hy0 hy1 hy2 rfl A _ c vs rfl hvl (Hvs.out.alloc _) _ 1 (.slice A2 j c2) rfl (by simp) rfl (by omega) (by omega) (by simp; omega) ?_; intro A3 c3 w3 hO3 hT3 hA3)
            have hb3 : Below w.heap.size w w3 := (hb2'.alloc (by omega) _).trans (hT3.below (by simp; omega) (fun y hy => (Hvs.out.lt hy).1))
            go_roundg (4 * n - (k + 1))
            case measure => omega
            case rel =>
              refine ⟨k + 1, A3, c3, by omega, rfl, by go_num, by rw [HE.out]; simp, ?_, hb3⟩
              rw [HE.out, List.map_append]
              exact ⟨_, hO3, (Hsn.out.alloc _).turned (Hvs.out.alloc _) (by decide) hT3⟩
          · have hls2 : leastB (fb M (-1)) (perOf (fb M (-1)) (4 * n)) k = false := by simpa using hls
            have HE : Hid (clTo (fb M (-1)) (perOf (fb M (-1)) (4 * n)) (fun _ => true) (k + 1) = st) := Lib.hid (by rw [Hsucc.out, if_neg (by simpa using hls)])
            rw [hls2]
            clear hls hls2
            go_wp2_with fail
            go_roundg (4 * n - (k + 1))
            case measure => omega
            case rel => exact ⟨k + 1, A, c, by omega, rfl, by go_num, by rw [HE.out], by rw [HE.out]; exact Hown2.out, hb2'⟩
    · obtain rfl : k = 4 * n := by omega
      go_wp2_with fail
      go_ret
      rw [Hst.out]
      exact ⟨A, c, rfl, hb, Hown.out⟩
set_option maxRecDepth 100000 in
set_option maxHeartbeats 4000000 in
theorem rstrands_any (S M : List Int) (L : Int) (n : Nat) (aS aM : Option Addr) (cS cM : Nat) (w : World) (hn : n ≤ 1000) (hSn : S.length = n) (hS : IntsAt w aS S) (hl : M.length = 4 * n) (hm : MateOk M n) (hM : IntsAt w aM M) :
    Calls Try.prog 129 #[.agg #[.slice aS S.length cS, .slice aM M.length cM, .int .i64 L]] w fun e w' => ∃ a c, e = .returned (.slice a (clTo (fb M 2) (perOf (fb M 2) (4 * n)) (outB S) (4 * n)).length c) ∧ Below w.heap.size w w' ∧ OwnRows w' w.heap.size a c ((clTo (fb M 2) (perOf (fb M 2) (4 * n)) (outB S) (4 * n)).map nats) := by
  obtain ⟨i1, hi1, hy0, hy1, hy2⟩ := info_parts Try.info22
  have Hinj := Lib.hid (hm.injB 2 (by omega))
  have Hm := Lib.hid hm
  have HL := Lib.hid hl
  have HM := Lib.hid hM
  have hM1 : M.length ≤ 4 * n := by omega
  have hM2 : 4 * n ≤ M.length := by omega
  have HS := Lib.hid hS
  have HSn := Lib.hid hSn
  have hS1 : S.length ≤ n := by omega
  have hS2 : n ≤ S.length := by omega
  clear hl hm hM hS hSn
  go_enter Try.func129, Try.ntmps129
  go_wp2_with fail
  go_loopg [4, 3] (4 * n) (fun g i av wr => ∃ (k : Nat) (A : Option Addr) (c : Nat), k ≤ 4 * n ∧ g = 4 * n - k ∧ i = .int .i64 k ∧ av = .slice A (clTo (fb M 2) (perOf (fb M 2) (4 * n)) (outB S) k).length c ∧ OwnRows wr w.heap.size A c ((clTo (fb M 2) (perOf (fb M 2) (4 * n)) (outB S) k).map nats) ∧ Below w.heap.size w wr ∧ Row wr w.heap.size 24 [.slice aS S.length cS, .slice aM M.length cM, .int .i64 L])
  case atStart => exact ⟨0, none, 0, Nat.zero_le _, rfl, rfl, by simp [clTo], by simpa [clTo] using OwnRows.nil (w.alloc (.cells #[.slice aS S.length cS, .slice aM M.length cM, .int .i64 L] 24)) w.heap.size, (Below.refl _ _).alloc (Nat.le_refl _) _, Row.new w #[.slice aS S.length cS, .slice aM M.length cM, .int .i64 L] 24⟩
  case round =>
    obtain ⟨k, A, c, hk, rfl, rfl, rfl, hown, hb, hbox⟩ := hrel
    have hsz := hb.size
    have hzb := hbox.lt
    have hc0 := hbox.cell 0
    have hc1 := hbox.cell 1
    have hc2 := hbox.cell 2
    simp only [List.getElem?_cons_succ, List.getElem?_cons_zero] at hc0 hc1 hc2
    have Hbox := Lib.hid hbox; clear hbox
    have hcl := clTo_len (fb M 2) (perOf (fb M 2) (4 * n)) (outB S) k
    have Hsucc := Lib.hid (clTo_succ (fb M 2) (perOf (fb M 2) (4 * n)) (outB S) k)
    generalize hst : clTo (fb M 2) (perOf (fb M 2) (4 * n)) (outB S) k = st at *
    have Hst := Lib.hid hst; clear hst
    have Hown := Lib.hid hown; clear hown
    by_cases hlt : k < 4 * n
    · have hpp := perOf_le (fb M 2) (4 * n) k (by omega)
      have Hper := Lib.hid (perOf_spec Hinj.out k hlt)
      have Hlst := Lib.hid (leastB_to (fb M 2) (perOf (fb M 2) (4 * n)) k)
      generalize perOf (fb M 2) (4 * n) k = p at *
      have HOut := Lib.hid (rout_any S aS cS k wr (by omega) (by omega) (HS.out.later hb))
      by_cases hout : outB S k = true
      · rw [hout] at HOut
        have Hwk := Lib.hid hout
        clear hout
        go_wp2_with (go_at_call 100; refine HOut.out.mono ?_; rintro e w' ⟨rfl, rfl⟩)
        refine (strand_any S M L n aS aM cS cM wr k p hn HL.out Hm.out hlt (HM.out.later hb) Hper.out hpp).mono ?_
        rintro e w2 ⟨A2, c2, rfl, hb2, hO2⟩
        have hb2' := below_step hb hb2
        have hsz2 := hb2'.size
        have Hown2 := Lib.hid (Hown.out.later hb2 (Nat.le_refl _))
        have Hbox2 := Lib.hid (Hbox.out.later hb2 hzb)
        have HO2 := Lib.hid (hO2.mono hsz)
        clear hO2 Hown hb2 hb Hbox hc0 hc1 hc2 HOut
        go_wp2_with fail
        go_loopg [7, 6] p (fun g i lv wi => ∃ j : Nat, j ≤ p ∧ g = p - j ∧ i = .int .i64 j ∧ lv = .bool (leastTo (fb M 2) k j) ∧ wi = w2)
        case atStart => exact ⟨0, Nat.zero_le _, rfl, rfl, rfl, rfl⟩
        case round =>
          obtain ⟨j, hj, rfl, rfl, rfl, rfl⟩ := hrel
          have hlen : (orb (fb M 2) k p).length = p := orb_length _ _ _
          by_cases hjl : j < p
          · obtain ⟨b, off, rfl, hB, hbl, hcell, _⟩ := HO2.out.open (by rw [ints_length, nats_length, hlen]; omega)
            have hcj := hcell j _ (ints_get _ _ (by rw [nats_length, hlen]; exact hjl))
            rw [nth_nats _ _ (by rw [hlen]; exact hjl), orb_getD _ _ _ _ hjl] at hcj
            have Hls := Lib.hid (leastTo_succ (fb M 2) k j)
            generalize iter (fb M 2) j k = x at *
            clear hcell hlen
            by_cases hls : leastTo (fb M 2) k j = true
            · have HLs : Hid (leastTo (fb M 2) k (j + 1) = decide (k ≤ x)) := Lib.hid (by rw [Hls.out, hls, Bool.true_and])
              rw [hls]
              clear hls
              go_wp2_with fail
              go_roundg (p - (j + 1))
              case measure => omega
              case rel => exact ⟨j + 1, by omega, rfl, by go_num, by rw [HLs.out], rfl⟩
            · have hls2 : leastTo (fb M 2) k j = false := by simpa using hls
              have HLs : Hid (leastTo (fb M 2) k (j + 1) = false) := Lib.hid (by rw [Hls.out, hls2, Bool.false_and])
              rw [hls2]
              clear hls hls2
              go_wp2_with fail
              go_roundg (p - (j + 1))
              case measure => omega
              case rel => exact ⟨j + 1, by omega, rfl, by go_num, by rw [HLs.out], rfl⟩
          · obtain rfl : j = p := by omega
            clear hlen
            rw [← Hlst.out]
            by_cases hls : leastB (fb M 2) (perOf (fb M 2) (4 * n)) k = true
            · have HE : Hid (clTo (fb M 2) (perOf (fb M 2) (4 * n)) (outB S) (k + 1) = st ++ [orb (fb M 2) k j]) := Lib.hid (by rw [Hsucc.out, if_pos (by rw [Hwk.out, Bool.true_and]; exact hls)])
              rw [hls]
              clear hls
              obtain ⟨vs, hvs, hro⟩ := Hown2.out
              have hvl := hro.1
              simp only [List.length_map] at hvl
              have hs3 : (nats (orb (fb M 2) k j)).length = j := by rw [nats_length, orb_length]
              have hsn := hro.snoc HO2.out
              rw [hs3] at hsn
              have Hvs := Lib.hid hvs
              have Hsn := Lib.hid hsn
              clear hsn hro hvs hs3
              go_wp2_with (with_reducible refine wpList_append_one rfl (.tmp 39) (.tmp 41) 30 rfl w.heap.size 22 i1 (.slice none 0 0) 24 Try.underlying30 hi1 hy0 hy1 hy2 rfl A _ c vs rfl hvl (Hvs.out.alloc _) _ 1 (.slice A2 j c2) rfl (by simp) rfl (by omega) (by omega) (by simp; omega) ?_; intro A3 c3 w3 hO3 hT3 hA3)
              have hb3 : Below w.heap.size w w3 := (hb2'.alloc (by omega) _).trans (hT3.below (by simp; omega) (fun y hy => (Hvs.out.lt hy).1))
              go_roundg (4 * n - (k + 1))
              case measure => omega
              case rel =>
                refine ⟨k + 1, A3, c3, by omega, rfl, by go_num, by rw [HE.out]; simp, ?_, hb3, (Hbox2.out.alloc _).turnedT (Hvs.out.alloc _) (by decide) hT3⟩
                rw [HE.out, List.map_append]
                exact ⟨_, hO3, (Hsn.out.alloc _).turned (Hvs.out.alloc _) (by decide) hT3⟩
            · have hls2 : leastB (fb M 2) (perOf (fb M 2) (4 * n)) k = false := by simpa using hls
              have HE : Hid (clTo (fb M 2) (perOf (fb M 2) (4 * n)) (outB S) (k + 1) = st) := Lib.hid (by rw [Hsucc.out, if_neg (by rw [Hwk.out, Bool.true_and]; exact hls)])
              rw [hls2]
              clear hls hls2
              go_wp2_with fail
              go_roundg (4 * n - (k + 1))
              case measure => omega
              case rel => exact ⟨k + 1, A, c, by omega, rfl, by go_num, by rw [HE.out], by rw [HE.out]; exact Hown2.out, hb2', Hbox2.out⟩
      · have hout2 : outB S k = false := by simpa using hout
        rw [hout2] at HOut
        have HE : Hid (clTo (fb M 2) (perOf (fb M 2) (4 * n)) (outB S) (k + 1) = st) := Lib.hid (by rw [Hsucc.out, hout2, Bool.false_and]; rfl)
        clear hout hout2
        go_wp2_with (go_at_call 100; refine HOut.out.mono ?_; rintro e w' ⟨rfl, rfl⟩)
        go_roundg (4 * n - (k + 1))
        case measure => omega
        case rel => exact ⟨k + 1, A, c, by omega, rfl, by go_num, by rw [HE.out], by rw [HE.out]; exact Hown.out, hb, Hbox.out⟩
    · obtain rfl : k = 4 * n := by omega
      go_wp2_with fail
      go_ret
      rw [Hst.out]
      exact ⟨A, c, rfl, hb, Hown.out⟩
end Go.Proofs.Ytkopbcehfbmnmaa
