/- The walks of the reference's Mirror and Switch at a diagram with a crossing. -/
import Derived.Test.YtkopbcehfbmnmaaRSwW
namespace Go.Proofs.Ytkopbcehfbmnmaa
open Go Go.RowKit
/-- The marks behind k rounds. -/
def mkK (n k : Nat) : List Bool := (List.range n).map fun x => decide (x < k)
theorem mkK_len (n k : Nat) : (mkK n k).length = n := by simp [mkK]
theorem mkK_set (n k : Nat) (_ : k < n) : (mkK n k).set k true = mkK n (k + 1) := by
  refine List.ext_getElem (by simp [mkK]) fun i h1 h2 => ?_
  simp only [mkK, List.getElem_set, List.getElem_map, List.getElem_range]
  by_cases e : k = i
  · rw [if_pos e]; exact (decide_eq_true (by omega)).symm
  · rw [if_neg e]; rw [decide_eq_decide]; omega
theorem mkK_all (n c : Nat) (hc : c < n) : bth (mkK n n) c = true := by simp [bth, mkK, hc]
set_option maxRecDepth 100000 in
set_option maxHeartbeats 16000000 in
theorem rmirror_some (S M : List Int) (L : Int) (aS aM : Option Addr) (cS cM : Nat) (w : World) (hv : vldB S M L = true) (h0S : 0 < S.length) (hS : IntsAt w aS S) (hM : IntsAt w aM M) :
    Calls Try.prog 48 #[.agg #[.slice aS S.length cS, .slice aM M.length cM, .int .i64 L]] w (RfR w S.length M.length (mulS S (swS fun _ => true)) (mvL (trn (swB S fun _ => true)) M) L) := by
  have hS64 := (vldB_shape hv).few
  obtain ⟨W, hW⟩ : ∃ W, W = (w.alloc (.cells #[.slice aS S.length cS, .slice aM M.length cM, .int .i64 L] 24)).alloc (.cells #[.slice none 0 0, .slice none 0 0, .int .i64 0] 24) := ⟨_, rfl⟩
  have h0 : HH w W [(w.heap.size, rowO 24 [.slice aS S.length cS, .slice aM M.length cM, .int .i64 L]), (w.heap.size + 1, rowO 24 [.slice none 0 0, .slice none 0 0, .int .i64 0])] [] := by
    rw [hW]; exact ((HH.start w).alloc #[.slice aS S.length cS, .slice aM M.length cM, .int .i64 L] 24 rfl rfl).alloc #[.slice none 0 0, .slice none 0 0, .int .i64 0] 24 (by simp) rfl
  have H0 := Lib.hid h0
  have hmk := run_mkB S.length (by omega)
  have HSM := Lib.hid (And.intro hS hM)
  have Hv := Lib.hid hv
  clear hv hS hM h0
  go_enter Try.func48, Try.ntmps48
  go_upto_region 1 with fail
  rw [← hW]
  clear hW
  have hc0_0 := H0.out.cell (k := 0) (i := 0) rfl rfl
  go_upto_region 2 with fail
  obtain ⟨v, hv⟩ : ∃ x, x = W.alloc (.cells (Array.replicate S.length (.bool false)) 4) := ⟨_, rfl⟩
  rw [← hv]
  have h1 : HH w v [(w.heap.size, rowO 24 [.slice aS S.length cS, .slice aM M.length cM, .int .i64 L]), (w.heap.size + 1, rowO 24 [.slice none 0 0, .slice none 0 0, .int .i64 0]), (W.heap.size, rowO 4 (bools (mkK S.length 0)))] [] := by
    have e : mkK S.length 0 = List.replicate S.length false := List.ext_getElem (by simp [mkK]) fun i h1 h2 => by simp [mkK]
    rw [hv, e]; exact H0.out.alloc _ 4 rfl (falses_bools _)
  obtain ⟨bT, hbT⟩ : ∃ x, x = W.heap.size := ⟨_, rfl⟩
  rw [← hbT] at h1
  rw [← hbT]
  have H1 := Lib.hid h1
  clear hbT hv h1 H0 hc0_0
  go_wp2_with fail
  go_loopg [4] S.length (fun g t wr => ∃ c : Nat, c ≤ S.length ∧ g = S.length - c ∧ t = .int .i64 c ∧ HH w wr [(w.heap.size, rowO 24 [.slice aS S.length cS, .slice aM M.length cM, .int .i64 L]), (w.heap.size + 1, rowO 24 [.slice none 0 0, .slice none 0 0, .int .i64 0]), (bT, rowO 4 (bools (mkK S.length c)))] [])
  case atStart => exact ⟨0, Nat.zero_le _, rfl, rfl, H1.out⟩
  case round =>
    clear H1
    obtain ⟨c, hc, rfl, rfl, hk⟩ := hrel
    have Hk := Lib.hid hk
    clear hk
    by_cases hl : c < S.length
    · have hset := Lib.hid (Hk.out.setBool (k := 2) rfl c true)
      have hT0 := Hk.out.bool (k := 2) rfl c (by rw [mkK_len]; exact hl)
      have hT1 := Hk.out.frozen (k := 2) rfl c
      have Hst := Lib.hid (mkK_set S.length c hl)
      go_wp2_with fail
      go_roundg (S.length - (c + 1))
      case measure => omega
      case rel => exact ⟨c + 1, hl, rfl, by go_num, by rw [← Hst.out]; exact hset.out⟩
    · obtain rfl : c = S.length := by omega
      have HC := Lib.hid (switchAll_some S M L aS aM cS cM bT (mkK S.length S.length) (fun _ => true) wr Hv.out h0S (mkK_len _ _) (fun c hc => mkK_all _ c hc) (Hk.out.came HSM.out.1) (Hk.out.came HSM.out.2) (Hk.out.row (k := 2) rfl))
      have hc0 := Hk.out.cell (k := 0) (i := 0) rfl rfl
      have hc1 := Hk.out.cell (k := 0) (i := 1) rfl rfl
      have hc2 := Hk.out.cell (k := 0) (i := 2) rfl rfl
      go_wp2_with fail
      refine HC.out.mono ?_
      rintro e w8 ⟨aG, aH, cG, cH, rfl, hG, hH, hb8⟩
      have H8 := Lib.hid (Hk.out.call hb8)
      have HO := Lib.hid (And.intro (hG.mono Hk.out.below.size) (hH.mono Hk.out.below.size))
      clear hG hH hb8 hc0 hc1 hc2
      have hd0 := H8.out.cell (k := 1) (i := 0) rfl rfl
      have hd1 := H8.out.cell (k := 1) (i := 1) rfl rfl
      have hd2 := H8.out.cell (k := 1) (i := 2) rfl rfl
      have hf0 := H8.out.frozen (k := 1) rfl 0
      have hf1 := H8.out.frozen (k := 1) rfl 1
      have hf2 := H8.out.frozen (k := 1) rfl 2
      have H9 := Lib.hid (((H8.out.set (k := 1) rfl 0 (.slice aG S.length cG)).set (k := 1) rfl 1 (.slice aH M.length cH)).set (k := 1) rfl 2 (.int .i64 L))
      have hF0 := H9.out.cell (k := 1) (i := 0) rfl rfl
      have hF1 := H9.out.cell (k := 1) (i := 1) rfl rfl
      have hF2 := H9.out.cell (k := 1) (i := 2) rfl rfl
      go_wp2_with fail
      refine bodyPost_ret (v := .agg #[.slice aG S.length cG, .slice aH M.length cH, .int .i64 L]) (by simp [results, Try.results48, go_sem, hF0, hF1, hF2]) rfl ?_
      exact ⟨aG, aH, cG, cH, rfl, HO.out.1.box (H8.out.row (k := 1) rfl) _ _ _, HO.out.2.box (H8.out.row (k := 1) rfl) _ _ _, H9.out.below⟩
set_option maxRecDepth 100000 in
set_option maxHeartbeats 16000000 in
theorem rswitch_some (S M : List Int) (L : Int) (aS aM : Option Addr) (cS cM q : Nat) (w : World) (hv : vldB S M L = true) (hq : q < S.length) (hS : IntsAt w aS S) (hM : IntsAt w aM M) :
    Calls Try.prog 61 #[.agg #[.slice aS S.length cS, .slice aM M.length cM, .int .i64 L], .int .i64 (q : Int)] w (RfR w S.length M.length (mulS S (swS fun c => decide (c = q))) (mvL (trn (swB S fun c => decide (c = q))) M) L) := by
  have hS64 := (vldB_shape hv).few
  obtain ⟨W, hW⟩ : ∃ W, W = (w.alloc (.cells #[.slice aS S.length cS, .slice aM M.length cM, .int .i64 L] 24)).alloc (.cells #[.slice none 0 0, .slice none 0 0, .int .i64 0] 24) := ⟨_, rfl⟩
  have h0 : HH w W [(w.heap.size, rowO 24 [.slice aS S.length cS, .slice aM M.length cM, .int .i64 L]), (w.heap.size + 1, rowO 24 [.slice none 0 0, .slice none 0 0, .int .i64 0])] [] := by
    rw [hW]; exact ((HH.start w).alloc #[.slice aS S.length cS, .slice aM M.length cM, .int .i64 L] 24 rfl rfl).alloc #[.slice none 0 0, .slice none 0 0, .int .i64 0] 24 (by simp) rfl
  have H0 := Lib.hid h0
  have hmk := run_mkB S.length (by omega)
  have HSM := Lib.hid (And.intro hS hM)
  have Hv := Lib.hid hv
  clear hv hS hM h0
  go_enter Try.func61, Try.ntmps61
  go_upto_region 1 with fail
  rw [← hW]
  clear hW
  have hc0_0 := H0.out.cell (k := 0) (i := 0) rfl rfl
  go_upto_region 2 with fail
  obtain ⟨v, hv⟩ : ∃ x, x = W.alloc (.cells (Array.replicate S.length (.bool false)) 4) := ⟨_, rfl⟩
  rw [← hv]
  have h1 : HH w v [(w.heap.size, rowO 24 [.slice aS S.length cS, .slice aM M.length cM, .int .i64 L]), (w.heap.size + 1, rowO 24 [.slice none 0 0, .slice none 0 0, .int .i64 0]), (W.heap.size, rowO 4 (bools (mkK S.length 0)))] [] := by
    have e : mkK S.length 0 = List.replicate S.length false := List.ext_getElem (by simp [mkK]) fun i h1 h2 => by simp [mkK]
    rw [hv, e]; exact H0.out.alloc _ 4 rfl (falses_bools _)
  obtain ⟨bT, hbT⟩ : ∃ x, x = W.heap.size := ⟨_, rfl⟩
  rw [← hbT] at h1
  rw [← hbT]
  have H1 := Lib.hid h1
  clear hbT hv h1 H0 hc0_0
  have hT0 := H1.out.bool (k := 2) rfl q (by rw [mkK_len]; exact hq)
  have hT1 := H1.out.frozen (k := 2) rfl q
  have Hk := Lib.hid (H1.out.setBool (k := 2) rfl q true)
  have HC := Lib.hid (switchAll_some S M L aS aM cS cM bT ((mkK S.length 0).set q true) (fun c => decide (c = q)) _ Hv.out (by omega) (by rw [List.length_set, mkK_len]) (fun c hc => by
    rw [bth_set _ _ _ _ (by rw [mkK_len]; exact hq)]
    by_cases e : q = c
    · rw [if_pos e]; exact (decide_eq_true e.symm).symm
    · rw [if_neg e, decide_eq_false fun g => e g.symm]; simp [bth, mkK, hc]) (Hk.out.came HSM.out.1) (Hk.out.came HSM.out.2) (Hk.out.row (k := 2) rfl))
  have hc0 := Hk.out.cell (k := 0) (i := 0) rfl rfl
  have hc1 := Hk.out.cell (k := 0) (i := 1) rfl rfl
  have hc2 := Hk.out.cell (k := 0) (i := 2) rfl rfl
  go_wp2_with fail
  refine HC.out.mono ?_
  rintro e w8 ⟨aG, aH, cG, cH, rfl, hG, hH, hb8⟩
  have H8 := Lib.hid (Hk.out.call hb8)
  have HO := Lib.hid (And.intro (hG.mono Hk.out.below.size) (hH.mono Hk.out.below.size))
  clear hG hH hb8 hc0 hc1 hc2
  have hd0 := H8.out.cell (k := 1) (i := 0) rfl rfl
  have hd1 := H8.out.cell (k := 1) (i := 1) rfl rfl
  have hd2 := H8.out.cell (k := 1) (i := 2) rfl rfl
  have hf0 := H8.out.frozen (k := 1) rfl 0
  have hf1 := H8.out.frozen (k := 1) rfl 1
  have hf2 := H8.out.frozen (k := 1) rfl 2
  have H9 := Lib.hid (((H8.out.set (k := 1) rfl 0 (.slice aG S.length cG)).set (k := 1) rfl 1 (.slice aH M.length cH)).set (k := 1) rfl 2 (.int .i64 L))
  have hF0 := H9.out.cell (k := 1) (i := 0) rfl rfl
  have hF1 := H9.out.cell (k := 1) (i := 1) rfl rfl
  have hF2 := H9.out.cell (k := 1) (i := 2) rfl rfl
  go_wp2_with fail
  refine bodyPost_ret (v := .agg #[.slice aG S.length cG, .slice aH M.length cH, .int .i64 L]) (by simp [results, Try.results61, go_sem, hF0, hF1, hF2]) rfl ?_
  exact ⟨aG, aH, cG, cH, rfl, HO.out.1.box (H8.out.row (k := 1) rfl) _ _ _, HO.out.2.box (H8.out.row (k := 1) rfl) _ _ _, H9.out.below⟩
end Go.Proofs.Ytkopbcehfbmnmaa
