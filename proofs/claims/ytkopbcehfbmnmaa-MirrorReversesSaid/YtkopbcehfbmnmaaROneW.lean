/- The walk of mirror.ReverseOne. -/
import Derived.Test.YtkopbcehfbmnmaaMirW
import Derived.Test.YtkopbcehfbmnmaaMovD
import Derived.Test.YtkopbcehfbmnmaaRoCl
import Derived.Test.YtkopbcehfbmnmaaMkB
import Derived.Test.YtkopbcehfbmnmaaFlagB
import Derived.Test.YtkopbcehfbmnmaaStrandsW
import Derived.Test.YtkopbcehfbmnmaaHeap
import Derived.Deep.DeepCutAuto
namespace Go.Proofs.Ytkopbcehfbmnmaa
open Go Go.RowKit
set_option maxRecDepth 100000 in
set_option maxHeartbeats 8000000 in
theorem rone_row (S M : List Int) (L : Int) (aS aM : Option Addr) (cS cM i : Nat) (w : World) (hv : vldB S M L = true) (hi : (i : Int) < ((strandsL S M L).length : Int) + L) (hS : IntsAt w aS S) (hM : IntsAt w aM M) :
    Calls Try.prog 56 #[.agg #[.slice aS S.length cS, .slice aM M.length cM, .int .i64 L], .int .i64 (i : Int)] w fun e w' => ∃ bS bM : Nat, e = .returned (.tuple #[.agg #[.slice (some ⟨bS, 0, none⟩) S.length S.length, .slice (some ⟨bM, 0, none⟩) M.length M.length, .int .i64 L], .int .i64 0]) ∧ Row w' bS 3 (ints (mulS S (r1S S M i))) ∧ Row w' bM 3 (ints (mvL (trn (r1B S M i)) M)) ∧ Below w.heap.size w w' := by
  have hSl := (vldB_shape hv).few
  have hMl : M.length ≤ 256 := by have := (vldB_shape hv).len; omega
  have hL0 := (vldB_shape hv).lo
  have hL1 := (vldB_shape hv).hi
  have hfw := (strandsL_lists hv).few
  obtain ⟨W, hW⟩ : ∃ W, W = (w.alloc (.cells #[.slice aS S.length cS, .slice aM M.length cM, .int .i64 L] 24)).alloc (.cells #[.slice none 0 0, .slice none 0 0, .int .i64 0] 24) := ⟨_, rfl⟩
  have h0 : HH w W [(w.heap.size, rowO 24 [.slice aS S.length cS, .slice aM M.length cM, .int .i64 L]), (w.heap.size + 1, rowO 24 [.slice none 0 0, .slice none 0 0, .int .i64 0])] [] := by
    rw [hW]; exact ((HH.start w).alloc #[.slice aS S.length cS, .slice aM M.length cM, .int .i64 L] 24 rfl rfl).alloc #[.slice none 0 0, .slice none 0 0, .int .i64 0] 24 (by simp) rfl
  have H0 := Lib.hid h0
  have HV : Hid (Calls Try.prog 39 #[.agg #[.slice aS S.length cS, .slice aM M.length cM, .int .i64 L]] W fun e w' => e = .returned (.bool true) ∧ Below W.heap.size W w') := Lib.hid (by
    rw [← hv]; exact valid_any S M L aS aM cS cM W (by omega) (by omega) (h0.came hS) (h0.came hM))
  have H54 : Hid (∀ W', Below w.heap.size w W' → Calls Try.prog 54 #[.agg #[.slice aS S.length cS, .slice aM M.length cM, .int .i64 L]] W' fun e w' => ∃ a c, e = .returned (.slice a (strandsL S M L).length c) ∧ Below W'.heap.size W' w' ∧ OwnRows w' W'.heap.size a c ((strandsL S M L).map nats)) := Lib.hid fun W' hW' =>
    strands_any S M L aS aM cS cM W' (by omega) (by omega) (hS.later hW') (hM.later hW')
  have hmk := run_mkB S.length (by omega)
  have Hi := Lib.hid hi
  have Hv := Lib.hid hv
  have HSM := Lib.hid (And.intro hS hM)
  clear hv hS hM hi h0
  go_enter Try.func56, Try.ntmps56
  go_wp2_with fail
  rw [← hW]
  refine HV.out.mono ?_
  rintro e w1 ⟨rfl, hb1⟩
  have H1 := Lib.hid (H0.out.call hb1)
  clear hb1 hW HV H0
  have hc0 := H1.out.cell (k := 0) (i := 0) rfl rfl
  have hc1 := H1.out.cell (k := 0) (i := 1) rfl rfl
  have hc2 := H1.out.cell (k := 0) (i := 2) rfl rfl
  go_wp2_with fail
  refine (H54.out w1 H1.out.below).mono ?_
  rintro e w2 ⟨A, c, rfl, hb2, hR⟩
  have H2 := Lib.hid (H1.out.call hb2)
  have HR := Lib.hid hR
  clear hb2 hR hc0 hc1 hc2 H1 H54
  have hc0 := H2.out.cell (k := 0) (i := 0) rfl rfl
  have hc1 := H2.out.cell (k := 0) (i := 1) rfl rfl
  have hc2 := H2.out.cell (k := 0) (i := 2) rfl rfl
  have d1 : decide ((i : Int) < 0) = false := decide_eq_false (by omega)
  have d2 : decide (((strandsL S M L).length : Int) + L ≤ (i : Int)) = false := decide_eq_false (by have := Hi.out; omega)
  go_upto_region 7 with fail
  obtain ⟨w3, hW3⟩ : ∃ x, x = (w2.alloc (.cells (Array.replicate S.length (.bool false)) 4)).alloc (.cells #[.slice (some ⟨w2.heap.size, 0, none⟩) S.length S.length] 87) := ⟨_, rfl⟩
  rw [← hW3]
  have h3 : HH w w3 [(w.heap.size, rowO 24 [.slice aS S.length cS, .slice aM M.length cM, .int .i64 L]), (w.heap.size + 1, rowO 24 [.slice none 0 0, .slice none 0 0, .int .i64 0]), (w2.heap.size, rowO 4 (bools (List.replicate S.length false))), (w2.heap.size + 1, rowO 87 [.slice (some ⟨w2.heap.size, 0, none⟩) S.length S.length])] [] := by
    rw [hW3]; exact (H2.out.alloc _ 4 rfl (falses_bools _)).alloc #[.slice (some ⟨w2.heap.size, 0, none⟩) S.length S.length] 87 (by simp) rfl
  have hb23 : Below w2.heap.size w2 w3 := by rw [hW3]; exact ((Below.refl _ _).alloc (Nat.le_refl _) _).alloc (by simp) _
  obtain ⟨bU, hbU⟩ : ∃ x, x = w2.heap.size := ⟨_, rfl⟩
  rw [← hbU] at h3
  have HbU := Lib.hid hbU
  rw [← hbU]
  clear hbU hW3 H2 hc0 hc1 hc2
  have H3 := Lib.hid h3
  clear h3
  have hc0 := H3.out.cell (k := 0) (i := 0) rfl rfl
  have hc1 := H3.out.cell (k := 0) (i := 1) rfl rfl
  have hc2 := H3.out.cell (k := 0) (i := 2) rfl rfl
  go_upto_region 8 with fail
  obtain ⟨w4, hW4⟩ : ∃ x, x = (w3.alloc (.cells (Array.replicate S.length (.bool false)) 4)).alloc (.cells #[.slice (some ⟨w3.heap.size, 0, none⟩) S.length S.length] 87) := ⟨_, rfl⟩
  rw [← hW4]
  have h4 : HH w w4 [(w.heap.size, rowO 24 [.slice aS S.length cS, .slice aM M.length cM, .int .i64 L]), (w.heap.size + 1, rowO 24 [.slice none 0 0, .slice none 0 0, .int .i64 0]), (bU, rowO 4 (bools (List.replicate S.length false))), (bU + 1, rowO 87 [.slice (some ⟨bU, 0, none⟩) S.length S.length]), (w3.heap.size, rowO 4 (bools (List.replicate S.length false))), (w3.heap.size + 1, rowO 87 [.slice (some ⟨w3.heap.size, 0, none⟩) S.length S.length])] [] := by
    rw [hW4]; exact (H3.out.alloc _ 4 rfl (falses_bools _)).alloc #[.slice (some ⟨w3.heap.size, 0, none⟩) S.length S.length] 87 (by simp) rfl
  have hb34 : Below w3.heap.size w3 w4 := by rw [hW4]; exact ((Below.refl _ _).alloc (Nat.le_refl _) _).alloc (by simp) _
  have Hb24 := Lib.hid (below_step hb23 hb34)
  obtain ⟨bO, hbO⟩ : ∃ x, x = w3.heap.size := ⟨_, rfl⟩
  rw [← hbO] at h4
  rw [← hbO]
  have HbO : Hid (w2.heap.size ≤ bO) := Lib.hid (by rw [hbO]; exact hb23.size)
  clear hbO hW4 H3 hb23 hb34 hmk hc0 hc1 hc2
  have H4 := Lib.hid h4
  clear h4
  by_cases hil : i < (strandsL S M L).length
  · obtain ⟨l, hl⟩ : ∃ l, (strandsL S M L)[i]? = some l := ⟨_, List.getElem?_eq_getElem hil⟩
    have HR4 := Lib.hid (HR.out.later Hb24.out (Nat.le_refl _))
    obtain ⟨b, off, rfl, _, hbF, hF⟩ := HR.out.open (by rw [List.length_map]; omega)
    obtain ⟨aR, cR, hcF, hoR⟩ := hF i (nats l) (by rw [List.getElem?_map, hl]; rfl)
    rw [nats_length] at hcF
    have Hls := Lib.hid (strandsL_lists Hv.out)
    have hll := Hls.out.len i l hl
    have Hlt := Lib.hid (fun j x => Hls.out.lt i l j x hl)
    have HfU := Lib.hid (fun c hc => flag_u Hv.out hl (c := c) hc)
    have HfO := Lib.hid (fun c hc => flag_o Hv.out hl (c := c) hc)
    have HcR : Hid (∀ W', Below w2.heap.size w2 W' → ∀ j, j < l.length → ∃ bR oR, aR = some ⟨bR, oR, none⟩ ∧ W'.cell? ⟨bR, oR + j, none⟩ = some (.int .i64 ((l.getD j 0 : Nat) : Int))) := Lib.hid fun W' hW' j hj => by
      obtain ⟨bR, oR, e1, _, e2, e3, _⟩ := hoR.open (by rw [ints_length, nats_length]; omega)
      refine ⟨bR, oR, e1, ?_⟩
      have := e3 j _ (ints_get _ _ (by rw [nats_length]; exact hj))
      rw [nth_nats _ _ hj] at this
      exact (hW'.cell (p := ⟨bR, oR + j, none⟩) e2).trans this
    have hcF4 := (Hb24.out.cell (p := ⟨b, off + i, none⟩) hbF).trans hcF
    clear hF hoR hcF hl HR HR4
    go_wp2_with fail
    go_loopg [47] l.length (fun g v wr => ∃ j : Nat, j ≤ l.length ∧ g = l.length - j ∧ v = .int .i64 j ∧ Below w2.heap.size w2 wr ∧ HH w wr [(w.heap.size, rowO 24 [.slice aS S.length cS, .slice aM M.length cM, .int .i64 L]), (w.heap.size + 1, rowO 24 [.slice none 0 0, .slice none 0 0, .int .i64 0]), (bU, rowO 4 (bools ((l.take j).foldl (setF 0) (List.replicate S.length false)))), (bU + 1, rowO 87 [.slice (some ⟨bU, 0, none⟩) S.length S.length]), (bO, rowO 4 (bools ((l.take j).foldl (setF 1) (List.replicate S.length false)))), (bO + 1, rowO 87 [.slice (some ⟨bO, 0, none⟩) S.length S.length])] [])
    case atStart => exact ⟨0, Nat.zero_le _, rfl, rfl, Hb24.out, H4.out⟩
    case round =>
      clear H4 hcF4
      obtain ⟨j, hj, rfl, rfl, hb, hh⟩ := hrel
      have Hb := Lib.hid hb
      have Hh := Lib.hid hh
      clear hb hh
      by_cases hjl : j < l.length
      · obtain ⟨bR, oR, rfl, hcx⟩ := HcR.out wr Hb.out j hjl
        have hx := List.getElem?_eq_getElem hjl
        have hxd : l.getD j 0 = l[j] := by rw [List.getD_eq_getElem?_getD, hx]; rfl
        have hx4 := Hlt.out j _ hx
        rw [hxd] at hcx
        have Hs0 : Hid (((l.take (j + 1)).foldl (setF 0) (List.replicate S.length false)) = setF 0 ((l.take j).foldl (setF 0) (List.replicate S.length false)) l[j]) := Lib.hid (by rw [List.take_succ_eq_append_getElem hjl, List.foldl_append]; rfl)
        have Hs1 : Hid (((l.take (j + 1)).foldl (setF 1) (List.replicate S.length false)) = setF 1 ((l.take j).foldl (setF 1) (List.replicate S.length false)) l[j]) := Lib.hid (by rw [List.take_succ_eq_append_getElem hjl, List.foldl_append]; rfl)
        clear hx hxd
        generalize l[j] = x at *
        have hq4 : x / 4 < S.length := by omega
        have hxx : x ≤ 256 := by omega
        rcases Nat.mod_two_eq_zero_or_one x with hx2 | hx2
        · have hx2' : (x : Int) % 2 = 0 := by omega
          have he0 : setF 0 ((l.take j).foldl (setF 0) (List.replicate S.length false)) x = ((l.take j).foldl (setF 0) (List.replicate S.length false)).set (x / 4) true := if_pos hx2
          have he1 : setF 1 ((l.take j).foldl (setF 1) (List.replicate S.length false)) x = ((l.take j).foldl (setF 1) (List.replicate S.length false)) := if_neg (by omega)
          have h9 := Hh.out.setBool (k := 2) rfl (x / 4) true
          rw [← he0, ← Hs0.out] at h9
          rw [← Hs1.out] at he1
          have H9 : Hid (HH w (wr.setCell ⟨bU, x / 4, none⟩ (.bool true)) [(w.heap.size, rowO 24 [.slice aS S.length cS, .slice aM M.length cM, .int .i64 L]), (w.heap.size + 1, rowO 24 [.slice none 0 0, .slice none 0 0, .int .i64 0]), (bU, rowO 4 (bools ((l.take (j + 1)).foldl (setF 0) (List.replicate S.length false)))), (bU + 1, rowO 87 [.slice (some ⟨bU, 0, none⟩) S.length S.length]), (bO, rowO 4 (bools ((l.take (j + 1)).foldl (setF 1) (List.replicate S.length false)))), (bO + 1, rowO 87 [.slice (some ⟨bO, 0, none⟩) S.length S.length])] []) := Lib.hid (by rw [he1]; exact h9)
          have Hb9 : Hid (Below w2.heap.size w2 (wr.setCell ⟨bU, x / 4, none⟩ (.bool true))) := Lib.hid (Hb.out.setCell (by rw [← HbU.out]; exact Nat.le_refl _) _)
          have hcU := Hh.out.cell (k := 3) (i := 0) rfl rfl
          have hcX := Hh.out.bool (k := 2) rfl (x / 4) (by rw [foldF_len, List.length_replicate]; exact hq4)
          have hfX := Hh.out.frozen (k := 2) rfl (x / 4)
          generalize bth ((l.take j).foldl (setF 0) (List.replicate S.length false)) (x / 4) = xv at *
          clear he0 he1 h9 hx2
          go_wp2_with fail
          go_roundg (l.length - (j + 1))
          case measure => omega
          case rel => exact ⟨j + 1, by omega, rfl, by go_num, Hb9.out, H9.out⟩
        · have hx2' : (x : Int) % 2 = 1 := by omega
          have he0 : setF 0 ((l.take j).foldl (setF 0) (List.replicate S.length false)) x = ((l.take j).foldl (setF 0) (List.replicate S.length false)) := if_neg (by omega)
          have he1 : setF 1 ((l.take j).foldl (setF 1) (List.replicate S.length false)) x = ((l.take j).foldl (setF 1) (List.replicate S.length false)).set (x / 4) true := if_pos hx2
          have h9 := Hh.out.setBool (k := 4) rfl (x / 4) true
          rw [← he1, ← Hs1.out] at h9
          rw [← Hs0.out] at he0
          have H9 : Hid (HH w (wr.setCell ⟨bO, x / 4, none⟩ (.bool true)) [(w.heap.size, rowO 24 [.slice aS S.length cS, .slice aM M.length cM, .int .i64 L]), (w.heap.size + 1, rowO 24 [.slice none 0 0, .slice none 0 0, .int .i64 0]), (bU, rowO 4 (bools ((l.take (j + 1)).foldl (setF 0) (List.replicate S.length false)))), (bU + 1, rowO 87 [.slice (some ⟨bU, 0, none⟩) S.length S.length]), (bO, rowO 4 (bools ((l.take (j + 1)).foldl (setF 1) (List.replicate S.length false)))), (bO + 1, rowO 87 [.slice (some ⟨bO, 0, none⟩) S.length S.length])] []) := Lib.hid (by rw [he0]; exact h9)
          have Hb9 : Hid (Below w2.heap.size w2 (wr.setCell ⟨bO, x / 4, none⟩ (.bool true))) := Lib.hid (Hb.out.setCell (HbO.out) _)
          have hcU := Hh.out.cell (k := 5) (i := 0) rfl rfl
          have hcX := Hh.out.bool (k := 4) rfl (x / 4) (by rw [foldF_len, List.length_replicate]; exact hq4)
          have hfX := Hh.out.frozen (k := 4) rfl (x / 4)
          generalize bth ((l.take j).foldl (setF 1) (List.replicate S.length false)) (x / 4) = xv at *
          clear he0 he1 h9 hx2
          go_wp2_with fail
          go_roundg (l.length - (j + 1))
          case measure => omega
          case rel => exact ⟨j + 1, by omega, rfl, by go_num, Hb9.out, H9.out⟩
      · obtain rfl : j = l.length := by omega
        have HU : Hid ((l.foldl (setF 0) (List.replicate S.length false)).length = S.length ∧ ∀ c, c < S.length → bth (l.foldl (setF 0) (List.replicate S.length false)) c = uB S M i c) := Lib.hid ⟨by rw [foldF_len, List.length_replicate], HfU.out⟩
        have HO : Hid ((l.foldl (setF 1) (List.replicate S.length false)).length = S.length ∧ ∀ c, c < S.length → bth (l.foldl (setF 1) (List.replicate S.length false)) c = oB S M i c) := Lib.hid ⟨by rw [foldF_len, List.length_replicate], HfO.out⟩
        have hh := Hh.out
        rw [List.take_length] at hh
        have Hh' := Lib.hid hh
        clear hh HcR Hlt Hls Hb
        generalize l.foldl (setF 0) (List.replicate S.length false) = us at *
        generalize l.foldl (setF 1) (List.replicate S.length false) = os at *
        have HG : Hid (IntFn2 wr 126 #[.pointer (some ⟨bU + 1, 0, none⟩)] S.length (fun c _ => r1B S M i c)) := Lib.hid fun W' c x hW' hc hx => by
          have h2 := Hh'.out.call hW'
          have h3 := ro1_any W' (bU + 1) bU S.length c x us (h2.row (k := 3) rfl) (h2.row (k := 2) rfl) HU.out.1 hc
          rw [HU.out.2 c hc] at h3
          exact h3
        have HK : Hid (IntFnD wr 127 #[.pointer (some ⟨bU + 1, 0, none⟩), .pointer (some ⟨bO + 1, 0, none⟩)] S.length (r1S S M i)) := Lib.hid fun W' c hW' hc => by
          have h2 := Hh'.out.call hW'
          have h3 := ro2_any W' (bU + 1) (bO + 1) bU bO S.length c us os (h2.row (k := 3) rfl) (h2.row (k := 2) rfl) (h2.row (k := 5) rfl) (h2.row (k := 4) rfl) HU.out.1 HO.out.1 hc
          have e : r1S S M i c = if bth us c = bth os c then 1 else -1 := by unfold r1S; rw [← HU.out.2 c hc, ← HO.out.2 c hc]
          rw [e]
          exact h3
        have HM113 := Lib.hid (moved_any S M L aS aM cS cM S.length wr 126 127 #[.pointer (some ⟨bU + 1, 0, none⟩)] #[.pointer (some ⟨bU + 1, 0, none⟩), .pointer (some ⟨bO + 1, 0, none⟩)] (fun c _ => r1B S M i c) (r1S S M i) Try.call126 Try.call127 rfl (by omega) (vldB_shape Hv.out).len (vldB_shape Hv.out).mtOk
          (fun c hc => by have h1 := (vldB_shape Hv.out).sign c hc; rcases r1S_one S M i c with h | h <;> rw [h] <;> omega) (vldB_shape Hv.out).signBd (fun c _ => by have := r1S_one S M i c; omega) (fun c x _ _ => by have := r1B_bd S M i c; omega) HG.out HK.out (Hh'.out.came HSM.out.1) (Hh'.out.came HSM.out.2))
        have hc0 := Hh'.out.cell (k := 0) (i := 0) rfl rfl
        have hc1 := Hh'.out.cell (k := 0) (i := 1) rfl rfl
        have hc2 := Hh'.out.cell (k := 0) (i := 2) rfl rfl
        go_wp2_with fail
        refine HM113.out.mono ?_
        rintro e w5 ⟨bS, bM, rfl, hS5, hM5, hb5⟩
        have H5 := Hh'.out.call hb5
        have n1 : bS ≠ w.heap.size + 1 := fun e => by
          have h1 := hS5
          have h2 := H5.row (k := 1) rfl
          rw [e] at h1
          unfold Row at h1 h2
          rw [h2] at h1
          simp at h1
        have n2 : bM ≠ w.heap.size + 1 := fun e => by
          have h1 := hM5
          have h2 := H5.row (k := 1) rfl
          rw [e] at h1
          unfold Row at h1 h2
          rw [h2] at h1
          simp at h1
        have H6 := ((H5.set (k := 1) rfl 0 (.slice (some ⟨bS, 0, none⟩) S.length S.length)).set (k := 1) rfl 1 (.slice (some ⟨bM, 0, none⟩) M.length M.length)).set (k := 1) rfl 2 (.int .i64 L)
        have Hfin := Lib.hid (And.intro (((hS5.setOther ⟨w.heap.size + 1, 0, none⟩ (.slice (some ⟨bS, 0, none⟩) S.length S.length) n1).setOther ⟨w.heap.size + 1, 1, none⟩ (.slice (some ⟨bM, 0, none⟩) M.length M.length) n1).setOther ⟨w.heap.size + 1, 2, none⟩ (.int .i64 L) n1) (And.intro (((hM5.setOther ⟨w.heap.size + 1, 0, none⟩ (.slice (some ⟨bS, 0, none⟩) S.length S.length) n2).setOther ⟨w.heap.size + 1, 1, none⟩ (.slice (some ⟨bM, 0, none⟩) M.length M.length) n2).setOther ⟨w.heap.size + 1, 2, none⟩ (.int .i64 L) n2) H6.below))
        have hF0 := H6.cell (k := 1) (i := 0) rfl rfl
        have hF1 := H6.cell (k := 1) (i := 1) rfl rfl
        have hF2 := H6.cell (k := 1) (i := 2) rfl rfl
        have hd0 := H5.cell (k := 1) (i := 0) rfl rfl
        have hd1 := H5.cell (k := 1) (i := 1) rfl rfl
        have hd2 := H5.cell (k := 1) (i := 2) rfl rfl
        have hf0 := H5.frozen (k := 1) rfl 0
        have hf1 := H5.frozen (k := 1) rfl 1
        have hf2 := H5.frozen (k := 1) rfl 2
        clear hc0 hc1 hc2 hS5 hM5 hb5 n1 n2 H5 H6
        go_wp2_with fail
        refine bodyPost_ret (v := .tuple #[.agg #[.slice (some ⟨bS, 0, none⟩) S.length S.length, .slice (some ⟨bM, 0, none⟩) M.length M.length, .int .i64 L], .int .i64 0]) (by simp [results, Try.results56, go_sem, hF0, hF1, hF2]) rfl ?_
        exact ⟨bS, bM, rfl, Hfin.out⟩
  · have HU : Hid ((List.replicate S.length false).length = S.length ∧ ∀ c, c < S.length → bth (List.replicate S.length false) c = uB S M i c) := Lib.hid ⟨by rw [List.length_replicate], fun c hc => by
      have h1 : uB S M i c = false := decide_eq_false (by
        have h2 := ix_lt (vldB_shape Hv.out) (x := 4 * c + 2) (by omega)
        rw [strandsL_leasts Hv.out, List.length_map] at hil
        omega)
      rw [h1, bth_rep]⟩
    have HO : Hid ((List.replicate S.length false).length = S.length ∧ ∀ c, c < S.length → bth (List.replicate S.length false) c = oB S M i c) := Lib.hid ⟨by rw [List.length_replicate], fun c hc => by
      have h1 : oB S M i c = false := decide_eq_false (by
        have h2 := ix_lt (vldB_shape Hv.out) (x := 4 * c + 1) (by omega)
        rw [strandsL_leasts Hv.out, List.length_map] at hil
        omega)
      rw [h1, bth_rep]⟩
    generalize (List.replicate S.length false) = us at *
    obtain ⟨wr, rfl⟩ : ∃ wr, wr = w4 := ⟨_, rfl⟩
    have HG : Hid (IntFn2 wr 126 #[.pointer (some ⟨bU + 1, 0, none⟩)] S.length (fun c _ => r1B S M i c)) := Lib.hid fun W' c x hW' hc hx => by
      have h2 := H4.out.call hW'
      have h3 := ro1_any W' (bU + 1) bU S.length c x us (h2.row (k := 3) rfl) (h2.row (k := 2) rfl) HU.out.1 hc
      rw [HU.out.2 c hc] at h3
      exact h3
    have HK : Hid (IntFnD wr 127 #[.pointer (some ⟨bU + 1, 0, none⟩), .pointer (some ⟨bO + 1, 0, none⟩)] S.length (r1S S M i)) := Lib.hid fun W' c hW' hc => by
      have h2 := H4.out.call hW'
      have h3 := ro2_any W' (bU + 1) (bO + 1) bU bO S.length c us us (h2.row (k := 3) rfl) (h2.row (k := 2) rfl) (h2.row (k := 5) rfl) (h2.row (k := 4) rfl) HU.out.1 HO.out.1 hc
      have e : r1S S M i c = if bth us c = bth us c then 1 else -1 := by unfold r1S; rw [← HU.out.2 c hc, ← HO.out.2 c hc]
      rw [e]
      exact h3
    have HM113 := Lib.hid (moved_any S M L aS aM cS cM S.length wr 126 127 #[.pointer (some ⟨bU + 1, 0, none⟩)] #[.pointer (some ⟨bU + 1, 0, none⟩), .pointer (some ⟨bO + 1, 0, none⟩)] (fun c _ => r1B S M i c) (r1S S M i) Try.call126 Try.call127 rfl (by omega) (vldB_shape Hv.out).len (vldB_shape Hv.out).mtOk
      (fun c hc => by have h1 := (vldB_shape Hv.out).sign c hc; rcases r1S_one S M i c with h | h <;> rw [h] <;> omega) (vldB_shape Hv.out).signBd (fun c _ => by have := r1S_one S M i c; omega) (fun c x _ _ => by have := r1B_bd S M i c; omega) HG.out HK.out (H4.out.came HSM.out.1) (H4.out.came HSM.out.2))
    have hc0 := H4.out.cell (k := 0) (i := 0) rfl rfl
    have hc1 := H4.out.cell (k := 0) (i := 1) rfl rfl
    have hc2 := H4.out.cell (k := 0) (i := 2) rfl rfl
    go_wp2_with fail
    refine HM113.out.mono ?_
    rintro e w5 ⟨bS, bM, rfl, hS5, hM5, hb5⟩
    have H5 := H4.out.call hb5
    have n1 : bS ≠ w.heap.size + 1 := fun e => by
      have h1 := hS5
      have h2 := H5.row (k := 1) rfl
      rw [e] at h1
      unfold Row at h1 h2
      rw [h2] at h1
      simp at h1
    have n2 : bM ≠ w.heap.size + 1 := fun e => by
      have h1 := hM5
      have h2 := H5.row (k := 1) rfl
      rw [e] at h1
      unfold Row at h1 h2
      rw [h2] at h1
      simp at h1
    have H6 := ((H5.set (k := 1) rfl 0 (.slice (some ⟨bS, 0, none⟩) S.length S.length)).set (k := 1) rfl 1 (.slice (some ⟨bM, 0, none⟩) M.length M.length)).set (k := 1) rfl 2 (.int .i64 L)
    have Hfin := Lib.hid (And.intro (((hS5.setOther ⟨w.heap.size + 1, 0, none⟩ (.slice (some ⟨bS, 0, none⟩) S.length S.length) n1).setOther ⟨w.heap.size + 1, 1, none⟩ (.slice (some ⟨bM, 0, none⟩) M.length M.length) n1).setOther ⟨w.heap.size + 1, 2, none⟩ (.int .i64 L) n1) (And.intro (((hM5.setOther ⟨w.heap.size + 1, 0, none⟩ (.slice (some ⟨bS, 0, none⟩) S.length S.length) n2).setOther ⟨w.heap.size + 1, 1, none⟩ (.slice (some ⟨bM, 0, none⟩) M.length M.length) n2).setOther ⟨w.heap.size + 1, 2, none⟩ (.int .i64 L) n2) H6.below))
    have hF0 := H6.cell (k := 1) (i := 0) rfl rfl
    have hF1 := H6.cell (k := 1) (i := 1) rfl rfl
    have hF2 := H6.cell (k := 1) (i := 2) rfl rfl
    have hd0 := H5.cell (k := 1) (i := 0) rfl rfl
    have hd1 := H5.cell (k := 1) (i := 1) rfl rfl
    have hd2 := H5.cell (k := 1) (i := 2) rfl rfl
    have hf0 := H5.frozen (k := 1) rfl 0
    have hf1 := H5.frozen (k := 1) rfl 1
    have hf2 := H5.frozen (k := 1) rfl 2
    clear hc0 hc1 hc2 hS5 hM5 hb5 n1 n2 H5 H6
    go_wp2_with fail
    refine bodyPost_ret (v := .tuple #[.agg #[.slice (some ⟨bS, 0, none⟩) S.length S.length, .slice (some ⟨bM, 0, none⟩) M.length M.length, .int .i64 L], .int .i64 0]) (by simp [results, Try.results56, go_sem, hF0, hF1, hF2]) rfl ?_
    exact ⟨bS, bM, rfl, Hfin.out⟩
theorem rone_yes (S M : List Int) (L : Int) (aS aM : Option Addr) (cS cM i : Nat) (w : World) (hv : vldB S M L = true) (hi : (i : Int) < ((strandsL S M L).length : Int) + L) (hS : IntsAt w aS S) (hM : IntsAt w aM M) :
    Calls Try.prog 56 #[.agg #[.slice aS S.length cS, .slice aM M.length cM, .int .i64 L], .int .i64 (i : Int)] w (DgR w (mulS S (r1S S M i)) (mvL (trn (r1B S M i)) M) L 0) := by
  refine (rone_row S M L aS aM cS cM i w hv hi hS hM).mono ?_
  rintro e w' ⟨bS, bM, rfl, h1, h2, h3⟩
  exact ⟨some ⟨bS, 0, none⟩, some ⟨bM, 0, none⟩, S.length, M.length, by rw [mulS_len, mvL_len], h1.at, h2.at, h3⟩
end Go.Proofs.Ytkopbcehfbmnmaa
