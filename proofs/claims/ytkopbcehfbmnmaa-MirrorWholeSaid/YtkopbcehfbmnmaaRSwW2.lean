/- The walk of the reference's SwitchAll, at any diagram. -/
import Derived.Test.YtkopbcehfbmnmaaRSwW
namespace Go.Proofs.Ytkopbcehfbmnmaa
open Go Go.RowKit
set_option maxRecDepth 100000 in
set_option maxHeartbeats 16000000 in
theorem switchAll_nil (S M : List Int) (L : Int) (aM : Option Addr) (cS cM bK : Nat) (K : List Bool) (ch : Nat → Bool) (w : World) (hv : vldB S M L = true) (h0S : S.length = 0) (hKl : K.length = S.length) (hch : ∀ c, c < S.length → bth K c = ch c) (hS : IntsAt w none S) (hM : IntsAt w aM M) (hK : Row w bK 4 (bools K)) :
    Calls Try.prog 117 #[.agg #[.slice none S.length cS, .slice aM M.length cM, .int .i64 L], .slice (some ⟨bK, 0, none⟩) S.length S.length] w (RfR w S.length M.length (mulS S (swS ch)) (mvL (trn (swB S ch)) M) L) := by
  have Hz0 := Lib.hid h0S
  have hs := vldB_shape hv
  have hS64 := hs.few
  have hM256 : M.length ≤ 256 := by have := hs.len; omega
  have Hs := Lib.hid hs
  obtain ⟨W, hW⟩ : ∃ W, W = (w.alloc (.cells #[.slice none S.length cS, .slice aM M.length cM, .int .i64 L] 24)).alloc (.cells #[.slice none 0 0, .slice none 0 0, .int .i64 0] 24) := ⟨_, rfl⟩
  have h0 : HH w W [(w.heap.size, rowO 24 [.slice none S.length cS, .slice aM M.length cM, .int .i64 L]), (w.heap.size + 1, rowO 24 [.slice none 0 0, .slice none 0 0, .int .i64 0])] [] := by
    rw [hW]; exact ((HH.start w).alloc #[.slice none S.length cS, .slice aM M.length cM, .int .i64 L] 24 rfl rfl).alloc #[.slice none 0 0, .slice none 0 0, .int .i64 0] 24 (by simp) rfl
  have H0 := Lib.hid h0
  have hmk := run_mk S.length (by omega)
  have HSM := Lib.hid (And.intro hS hM)
  have HK := Lib.hid (And.intro hK (And.intro hKl hch))
  clear hs hv hS hM hK hKl hch h0 h0S
  go_enter Try.func117, Try.ntmps117
  go_upto_region 1 with fail
  rw [← hW]
  clear hW
  have hc0_0 := H0.out.cell (k := 0) (i := 0) rfl rfl
  go_upto_region 2 with fail
  obtain ⟨v, hv⟩ : ∃ x, x = W.alloc (.cells (Array.replicate S.length (.int .i64 0)) 3) := ⟨_, rfl⟩
  rw [← hv]
  have h1 : HH w v [(w.heap.size, rowO 24 [.slice none S.length cS, .slice aM M.length cM, .int .i64 L]), (w.heap.size + 1, rowO 24 [.slice none 0 0, .slice none 0 0, .int .i64 0]), (W.heap.size, rowO 3 (ints (saT S ch 0)))] [] := by
    have e : saT S ch 0 = List.replicate S.length (0 : Int) := (zero_lst S.length (swB S ch)).symm
    rw [hv, e]; exact H0.out.alloc _ 3 rfl (zeros_ints _)
  obtain ⟨bT, hbT⟩ : ∃ x, x = W.heap.size := ⟨_, rfl⟩
  rw [← hbT] at h1
  rw [← hbT]
  have H1 := Lib.hid h1
  clear hbT hv h1 H0 hc0_0
  have hbe : Below v.heap.size v (v.alloc (.cells #[] 3)) := (Below.refl _ _).alloc (Nat.le_refl _) _
  obtain ⟨aG, cG, v2, hrun, hown, hb2⟩ := run_append_cp (v.alloc (.cells #[] 3)) v.heap.size v.heap.size (Nat.le_refl _) (Row.new v #[] 3) S none cS 22 (by omega) ((H1.out.came HSM.out.1).later hbe)
  have Hrun := Lib.hid hrun
  have H2 : Hid (HH w v2 [(w.heap.size, rowO 24 [.slice none S.length cS, .slice aM M.length cM, .int .i64 L]), (w.heap.size + 1, rowO 24 [.slice none 0 0, .slice none 0 0, .int .i64 0]), (bT, rowO 3 (ints (saT S ch 0)))] [⟨aG, cG, 3, ints (saS S ch 0)⟩]) := Lib.hid (by
    rw [saS_zero]; exact H1.out.addSl (below_step hbe hb2) hown)
  have hc0_0 : (v.alloc (.cells #[] 3)).cell? ⟨w.heap.size, 0, none⟩ = some (.slice none S.length cS) := (H1.out.call hbe).cell (k := 0) (i := 0) rfl rfl
  clear hrun hown hb2 hbe
  go_wp2_with (refine wpList_append_all rfl (.tmp 12) (.tmp 14) rfl (.slice (some ⟨v.heap.size, 0, none⟩) 0 0) (.slice none S.length cS) _ _ rfl rfl Hrun.out ?_)
  clear hc0_0 H1 Hrun
  go_loopg [7] S.length (fun g t wr => ∃ c : Nat, c ≤ S.length ∧ g = S.length - c ∧ t = .int .i64 c ∧ HH w wr [(w.heap.size, rowO 24 [.slice none S.length cS, .slice aM M.length cM, .int .i64 L]), (w.heap.size + 1, rowO 24 [.slice none 0 0, .slice none 0 0, .int .i64 0]), (bT, rowO 3 (ints (saT S ch c)))] [⟨aG, cG, 3, ints (saS S ch c)⟩])
  case atStart => exact ⟨0, Nat.zero_le _, rfl, rfl, H2.out⟩
  case round =>
    clear H2
    obtain ⟨c, hc, rfl, rfl, hk⟩ := hrel
    have Hk := Lib.hid hk
    clear hk
    by_cases hl : c < S.length
    · exact absurd hl (by rw [Hz0.out]; exact Nat.not_lt_zero _)
    · obtain rfl : c = S.length := by omega
      have Hd := Lib.hid Hk.out.drew
      have HM : Hid (Calls Try.prog 119 #[.agg #[.slice none S.length cS, .slice aM M.length cM, .int .i64 L], .slice (some ⟨bT, 0, none⟩) S.length S.length, .bool false] wr.drew fun e w' => ∃ b : Nat, e = .returned (.slice (some ⟨b, 0, none⟩) M.length M.length) ∧ Row w' b 3 (ints (mvL (trn (swB S ch)) M)) ∧ Below wr.drew.heap.size wr.drew w' ∧ wr.drew.heap.size ≤ b) := Lib.hid (by
        have hT : (saT S ch S.length).length = S.length := lst_len _ _
        have h := rmove_turn S M (saT S ch S.length) L none aM (some ⟨bT, 0, none⟩) cS cM S.length S.length wr.drew hS64 Hs.out.len hT (fun x hx => ⟨Hs.out.mt_lt hx, (Hs.out.cast x hx).symm⟩) (fun c hc => by
          unfold saT; rw [lst_nth hc, if_pos hc]; have := swB_bd S ch c; omega) (Hd.out.came HSM.out.2) (Hd.out.row (k := 2) rfl).at
        rw [hT, saT_move S M ch Hs.out.len fun x hx => Hs.out.mt_lt hx] at h
        exact h)
      have hc0 := Hd.out.cell (k := 0) (i := 0) rfl rfl
      have hc1 := Hd.out.cell (k := 0) (i := 1) rfl rfl
      have hc2 := Hd.out.cell (k := 0) (i := 2) rfl rfl
      go_wp2_with fail
      go_region_with ((with_reducible refine HM.out.mono ?_); rintro e w8 ⟨bM, rfl, hrow, hb8, hlo8⟩; have H8 := Lib.hid (Hd.out.call hb8); have Hrow := Lib.hid hrow; clear hc0 hc1 hc2 hrow hb8; have hc0 := H8.out.cell (k := 0) (i := 0) rfl rfl; have hc1 := H8.out.cell (k := 0) (i := 1) rfl rfl; have hc2 := H8.out.cell (k := 0) (i := 2) rfl rfl; have hd0 := H8.out.cell (k := 1) (i := 0) rfl rfl; have hd1 := H8.out.cell (k := 1) (i := 1) rfl rfl; have hd2 := H8.out.cell (k := 1) (i := 2) rfl rfl; have hf0 := H8.out.frozen (k := 1) rfl 0; have hf1 := H8.out.frozen (k := 1) rfl 1; have hf2 := H8.out.frozen (k := 1) rfl 2)
      all_goals
        have Hlo8 := Lib.hid hlo8
        have H9 := Lib.hid (((H8.out.set (k := 1) rfl 0 (.slice aG S.length cG)).set (k := 1) rfl 1 (.slice (some ⟨bM, 0, none⟩) M.length M.length)).set (k := 1) rfl 2 (.int .i64 L))
        have hF0 := H9.out.cell (k := 1) (i := 0) rfl rfl
        have hF1 := H9.out.cell (k := 1) (i := 1) rfl rfl
        have hF2 := H9.out.cell (k := 1) (i := 2) rfl rfl
        clear hlo8
        go_wp2_with fail
        refine bodyPost_ret (v := .agg #[.slice aG S.length cG, .slice (some ⟨bM, 0, none⟩) M.length M.length, .int .i64 L]) (by simp [results, Try.results117, go_sem, hF0, hF1, hF2]) rfl ?_
        have hG := H9.out.sl (k := 0) rfl
        rw [saS_all] at hG
        have hlo : w.heap.size ≤ bM := Nat.le_trans Hd.out.below.size Hlo8.out
        have hMo := (Hrow.out.own hlo).box (H8.out.row (k := 1) rfl) (.slice aG S.length cG) (.slice (some ⟨bM, 0, none⟩) M.length M.length) (.int .i64 L)
        rw [ints_length, mvL_len] at hMo
        exact ⟨aG, some ⟨bM, 0, none⟩, cG, M.length, rfl, hG, hMo, H9.out.below⟩
set_option maxRecDepth 100000 in
set_option maxHeartbeats 16000000 in
theorem switchAll_zero (S M : List Int) (L : Int) (aM : Option Addr) (x : Addr) (cS cM bK : Nat) (K : List Bool) (ch : Nat → Bool) (w : World) (hv : vldB S M L = true) (h0S : S.length = 0) (hKl : K.length = S.length) (hch : ∀ c, c < S.length → bth K c = ch c) (hS : IntsAt w (some x) S) (hM : IntsAt w aM M) (hK : Row w bK 4 (bools K)) :
    Calls Try.prog 117 #[.agg #[.slice (some x) S.length cS, .slice aM M.length cM, .int .i64 L], .slice (some ⟨bK, 0, none⟩) S.length S.length] w (RfR w S.length M.length (mulS S (swS ch)) (mvL (trn (swB S ch)) M) L) := by
  have Hz0 := Lib.hid h0S
  have hs := vldB_shape hv
  have hS64 := hs.few
  have hM256 : M.length ≤ 256 := by have := hs.len; omega
  have Hs := Lib.hid hs
  obtain ⟨W, hW⟩ : ∃ W, W = (w.alloc (.cells #[.slice (some x) S.length cS, .slice aM M.length cM, .int .i64 L] 24)).alloc (.cells #[.slice none 0 0, .slice none 0 0, .int .i64 0] 24) := ⟨_, rfl⟩
  have h0 : HH w W [(w.heap.size, rowO 24 [.slice (some x) S.length cS, .slice aM M.length cM, .int .i64 L]), (w.heap.size + 1, rowO 24 [.slice none 0 0, .slice none 0 0, .int .i64 0])] [] := by
    rw [hW]; exact ((HH.start w).alloc #[.slice (some x) S.length cS, .slice aM M.length cM, .int .i64 L] 24 rfl rfl).alloc #[.slice none 0 0, .slice none 0 0, .int .i64 0] 24 (by simp) rfl
  have H0 := Lib.hid h0
  have hmk := run_mk S.length (by omega)
  have HSM := Lib.hid (And.intro hS hM)
  have HK := Lib.hid (And.intro hK (And.intro hKl hch))
  clear hs hv hS hM hK hKl hch h0 h0S
  go_enter Try.func117, Try.ntmps117
  go_upto_region 1 with fail
  rw [← hW]
  clear hW
  have hc0_0 := H0.out.cell (k := 0) (i := 0) rfl rfl
  go_upto_region 2 with fail
  obtain ⟨v, hv⟩ : ∃ x, x = W.alloc (.cells (Array.replicate S.length (.int .i64 0)) 3) := ⟨_, rfl⟩
  rw [← hv]
  have h1 : HH w v [(w.heap.size, rowO 24 [.slice (some x) S.length cS, .slice aM M.length cM, .int .i64 L]), (w.heap.size + 1, rowO 24 [.slice none 0 0, .slice none 0 0, .int .i64 0]), (W.heap.size, rowO 3 (ints (saT S ch 0)))] [] := by
    have e : saT S ch 0 = List.replicate S.length (0 : Int) := (zero_lst S.length (swB S ch)).symm
    rw [hv, e]; exact H0.out.alloc _ 3 rfl (zeros_ints _)
  obtain ⟨bT, hbT⟩ : ∃ x, x = W.heap.size := ⟨_, rfl⟩
  rw [← hbT] at h1
  rw [← hbT]
  have H1 := Lib.hid h1
  clear hbT hv h1 H0 hc0_0
  have hbe : Below v.heap.size v (v.alloc (.cells #[] 3)) := (Below.refl _ _).alloc (Nat.le_refl _) _
  obtain ⟨aG, cG, v2, hrun, hown, hb2⟩ := run_append_cp (v.alloc (.cells #[] 3)) v.heap.size v.heap.size (Nat.le_refl _) (Row.new v #[] 3) S (some x) cS 22 (by omega) ((H1.out.came HSM.out.1).later hbe)
  have Hrun := Lib.hid hrun
  have H2 : Hid (HH w v2 [(w.heap.size, rowO 24 [.slice (some x) S.length cS, .slice aM M.length cM, .int .i64 L]), (w.heap.size + 1, rowO 24 [.slice none 0 0, .slice none 0 0, .int .i64 0]), (bT, rowO 3 (ints (saT S ch 0)))] [⟨aG, cG, 3, ints (saS S ch 0)⟩]) := Lib.hid (by
    rw [saS_zero]; exact H1.out.addSl (below_step hbe hb2) hown)
  have hc0_0 : (v.alloc (.cells #[] 3)).cell? ⟨w.heap.size, 0, none⟩ = some (.slice (some x) S.length cS) := (H1.out.call hbe).cell (k := 0) (i := 0) rfl rfl
  clear hrun hown hb2 hbe
  go_wp2_with (refine wpList_append_all rfl (.tmp 12) (.tmp 14) rfl (.slice (some ⟨v.heap.size, 0, none⟩) 0 0) (.slice (some x) S.length cS) _ _ rfl rfl Hrun.out ?_)
  clear hc0_0 H1 Hrun
  go_loopg [7] S.length (fun g t wr => ∃ c : Nat, c ≤ S.length ∧ g = S.length - c ∧ t = .int .i64 c ∧ HH w wr [(w.heap.size, rowO 24 [.slice (some x) S.length cS, .slice aM M.length cM, .int .i64 L]), (w.heap.size + 1, rowO 24 [.slice none 0 0, .slice none 0 0, .int .i64 0]), (bT, rowO 3 (ints (saT S ch c)))] [⟨aG, cG, 3, ints (saS S ch c)⟩])
  case atStart => exact ⟨0, Nat.zero_le _, rfl, rfl, H2.out⟩
  case round =>
    clear H2
    obtain ⟨c, hc, rfl, rfl, hk⟩ := hrel
    have Hk := Lib.hid hk
    clear hk
    by_cases hl : c < S.length
    · exact absurd hl (by rw [Hz0.out]; exact Nat.not_lt_zero _)
    · obtain rfl : c = S.length := by omega
      have Hd := Lib.hid Hk.out.drew
      have HM : Hid (Calls Try.prog 119 #[.agg #[.slice (some x) S.length cS, .slice aM M.length cM, .int .i64 L], .slice (some ⟨bT, 0, none⟩) S.length S.length, .bool false] wr.drew fun e w' => ∃ b : Nat, e = .returned (.slice (some ⟨b, 0, none⟩) M.length M.length) ∧ Row w' b 3 (ints (mvL (trn (swB S ch)) M)) ∧ Below wr.drew.heap.size wr.drew w' ∧ wr.drew.heap.size ≤ b) := Lib.hid (by
        have hT : (saT S ch S.length).length = S.length := lst_len _ _
        have h := rmove_turn S M (saT S ch S.length) L (some x) aM (some ⟨bT, 0, none⟩) cS cM S.length S.length wr.drew hS64 Hs.out.len hT (fun x hx => ⟨Hs.out.mt_lt hx, (Hs.out.cast x hx).symm⟩) (fun c hc => by
          unfold saT; rw [lst_nth hc, if_pos hc]; have := swB_bd S ch c; omega) (Hd.out.came HSM.out.2) (Hd.out.row (k := 2) rfl).at
        rw [hT, saT_move S M ch Hs.out.len fun x hx => Hs.out.mt_lt hx] at h
        exact h)
      have hc0 := Hd.out.cell (k := 0) (i := 0) rfl rfl
      have hc1 := Hd.out.cell (k := 0) (i := 1) rfl rfl
      have hc2 := Hd.out.cell (k := 0) (i := 2) rfl rfl
      go_wp2_with fail
      go_region_with ((with_reducible refine HM.out.mono ?_); rintro e w8 ⟨bM, rfl, hrow, hb8, hlo8⟩; have H8 := Lib.hid (Hd.out.call hb8); have Hrow := Lib.hid hrow; clear hc0 hc1 hc2 hrow hb8; have hc0 := H8.out.cell (k := 0) (i := 0) rfl rfl; have hc1 := H8.out.cell (k := 0) (i := 1) rfl rfl; have hc2 := H8.out.cell (k := 0) (i := 2) rfl rfl; have hd0 := H8.out.cell (k := 1) (i := 0) rfl rfl; have hd1 := H8.out.cell (k := 1) (i := 1) rfl rfl; have hd2 := H8.out.cell (k := 1) (i := 2) rfl rfl; have hf0 := H8.out.frozen (k := 1) rfl 0; have hf1 := H8.out.frozen (k := 1) rfl 1; have hf2 := H8.out.frozen (k := 1) rfl 2)
      all_goals
        have Hlo8 := Lib.hid hlo8
        have H9 := Lib.hid (((H8.out.set (k := 1) rfl 0 (.slice aG S.length cG)).set (k := 1) rfl 1 (.slice (some ⟨bM, 0, none⟩) M.length M.length)).set (k := 1) rfl 2 (.int .i64 L))
        have hF0 := H9.out.cell (k := 1) (i := 0) rfl rfl
        have hF1 := H9.out.cell (k := 1) (i := 1) rfl rfl
        have hF2 := H9.out.cell (k := 1) (i := 2) rfl rfl
        clear hlo8
        go_wp2_with fail
        refine bodyPost_ret (v := .agg #[.slice aG S.length cG, .slice (some ⟨bM, 0, none⟩) M.length M.length, .int .i64 L]) (by simp [results, Try.results117, go_sem, hF0, hF1, hF2]) rfl ?_
        have hG := H9.out.sl (k := 0) rfl
        rw [saS_all] at hG
        have hlo : w.heap.size ≤ bM := Nat.le_trans Hd.out.below.size Hlo8.out
        have hMo := (Hrow.out.own hlo).box (H8.out.row (k := 1) rfl) (.slice aG S.length cG) (.slice (some ⟨bM, 0, none⟩) M.length M.length) (.int .i64 L)
        rw [ints_length, mvL_len] at hMo
        exact ⟨aG, some ⟨bM, 0, none⟩, cG, M.length, rfl, hG, hMo, H9.out.below⟩
theorem switchAll_any (S M : List Int) (L : Int) (aS aM : Option Addr) (cS cM bK : Nat) (K : List Bool) (ch : Nat → Bool) (w : World) (hv : vldB S M L = true) (hKl : K.length = S.length) (hch : ∀ c, c < S.length → bth K c = ch c) (hS : IntsAt w aS S) (hM : IntsAt w aM M) (hK : Row w bK 4 (bools K)) :
    Calls Try.prog 117 #[.agg #[.slice aS S.length cS, .slice aM M.length cM, .int .i64 L], .slice (some ⟨bK, 0, none⟩) S.length S.length] w (RfR w S.length M.length (mulS S (swS ch)) (mvL (trn (swB S ch)) M) L) := by
  rcases Nat.eq_zero_or_pos S.length with h | h
  · cases aS with
    | none => exact switchAll_nil S M L aM cS cM bK K ch w hv h hKl hch hS hM hK
    | some x => exact switchAll_zero S M L aM x cS cM bK K ch w hv h hKl hch hS hM hK
  · exact switchAll_some S M L aS aM cS cM bK K ch w hv h hKl hch hS hM hK
end Go.Proofs.Ytkopbcehfbmnmaa
