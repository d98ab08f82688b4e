/- The walk of the reference's Reflect. -/
import Derived.Deep.RegionHeld3
import Derived.Test.YtkopbcehfbmnmaaRMiW
namespace Go.Proofs.Ytkopbcehfbmnmaa
open Go Go.RowKit
theorem zero_flip (n : Nat) (M : List Int) (hM : M.length = 4 * n) (hmt : ∀ x, x < 4 * n → mt M x < 4 * n) : mvL (rflip (List.replicate n 0)) M = mvL rfl4 M := mvL_congr hM hmt fun x hx => by
  have h0 : nth (List.replicate n (0 : Int)) (x / 4) = 0 := by simp [nth, show x / 4 < n by omega]
  unfold rflip
  rw [h0, rfl4_val]
  omega
set_option maxRecDepth 100000 in
set_option maxHeartbeats 16000000 in
theorem rreflect_any (S M : List Int) (L : Int) (aS aM : Option Addr) (cS cM : Nat) (w : World) (hv : vldB S M L = true) (hS : IntsAt w aS S) (hM : IntsAt w aM M) :
    Calls Try.prog 49 #[.agg #[.slice aS S.length cS, .slice aM M.length cM, .int .i64 L]] w (RfR w S.length M.length (mulS S fun _ => -1) (mvL rfl4 M) L) := by
  have hs := vldB_shape hv
  have hS64 := hs.few
  obtain ⟨W, hW⟩ : ∃ W, W = (w.alloc (.cells #[.slice aS S.length cS, .slice aM M.length cM, .int .i64 L] 24)).alloc (.cells #[.slice none 0 0, .slice none 0 0, .int .i64 0] 24) := ⟨_, rfl⟩
  have h0 : HH w W [(w.heap.size, rowO 24 [.slice aS S.length cS, .slice aM M.length cM, .int .i64 L]), (w.heap.size + 1, rowO 24 [.slice none 0 0, .slice none 0 0, .int .i64 0])] [] := by
    rw [hW]; exact ((HH.start w).alloc #[.slice aS S.length cS, .slice aM M.length cM, .int .i64 L] 24 rfl rfl).alloc #[.slice none 0 0, .slice none 0 0, .int .i64 0] 24 (by simp) rfl
  have HK : Hid (∀ W', Below W.heap.size W W' → HH w W' [(w.heap.size, rowO 24 [.slice aS S.length cS, .slice aM M.length cM, .int .i64 L]), (w.heap.size + 1, rowO 24 [.slice none 0 0, .slice none 0 0, .int .i64 0])] []) := Lib.hid fun W' h => h0.call h
  have hmk := run_mk S.length (by omega)
  have HNG : Hid (∀ W', Below W.heap.size W W' → Calls Try.prog 118 #[.slice aS S.length cS] W' fun e w' => ∃ b : Nat, e = .returned (.slice (some ⟨b, 0, none⟩) S.length S.length) ∧ Row w' b 3 (ints (mulS S fun _ => -1)) ∧ Below W'.heap.size W' w' ∧ W'.heap.size ≤ b) := Lib.hid fun W' h =>
    negative_any S aS cS W' hS64 hs.signBd ((h0.call h).came hS)
  have HMV : Hid (∀ W' z, Below W.heap.size W W' → Row W' z 3 (ints (List.replicate S.length 0)) → Calls Try.prog 119 #[.agg #[.slice aS S.length cS, .slice aM M.length cM, .int .i64 L], .slice (some ⟨z, 0, none⟩) S.length S.length, .bool true] W' fun e w' => ∃ b : Nat, e = .returned (.slice (some ⟨b, 0, none⟩) M.length M.length) ∧ Row w' b 3 (ints (mvL rfl4 M)) ∧ Below W'.heap.size W' w' ∧ W'.heap.size ≤ b) := Lib.hid fun W' z h hr => by
    have hT : (List.replicate S.length (0 : Int)).length = S.length := by simp
    have h := rmove_flip S M (List.replicate S.length 0) L aS aM (some ⟨z, 0, none⟩) cS cM S.length S.length W' hS64 hs.len hT (fun x hx => ⟨hs.mt_lt hx, (hs.cast x hx).symm⟩) (fun c hc => by simp [nth, hc]) ((h0.call h).came hM) hr.at
    rw [hT, zero_flip _ _ hs.len fun x hx => hs.mt_lt hx] at h
    exact h
  have Hsz : Hid (w.heap.size ≤ W.heap.size) := Lib.hid h0.below.size
  clear hv hS hM h0 hs
  go_enter Try.func49, Try.ntmps49
  go_upto_region 1 with fail
  rw [← hW]
  clear hW
  have Hr := Lib.hid ((Below.refl W.heap.size W).drew)
  have HKS : Hid (∀ w', Below W.heap.size W w' → w'.cell? ⟨w.heap.size, 0, none⟩ = some (.slice aS S.length cS) ∧ w'.cell? ⟨w.heap.size, 1, none⟩ = some (.slice aM M.length cM) ∧ w'.cell? ⟨w.heap.size, 2, none⟩ = some (.int .i64 L)) := Lib.hid fun w' h => ⟨(HK.out _ h).cell (k := 0) (i := 0) rfl rfl, (HK.out _ h).cell (k := 0) (i := 1) rfl rfl, (HK.out _ h).cell (k := 0) (i := 2) rfl rfl⟩
  have HKT : Hid (∀ w' u0 u1 u2, Below W.heap.size W w' → ((((w'.setCell ⟨w.heap.size + 1, 0, none⟩ u0).setCell ⟨w.heap.size + 1, 1, none⟩ u1).setCell ⟨w.heap.size + 1, 2, none⟩ u2).cell? ⟨w.heap.size, 0, none⟩ = some (.slice aS S.length cS) ∧ (((w'.setCell ⟨w.heap.size + 1, 0, none⟩ u0).setCell ⟨w.heap.size + 1, 1, none⟩ u1).setCell ⟨w.heap.size + 1, 2, none⟩ u2).cell? ⟨w.heap.size, 1, none⟩ = some (.slice aM M.length cM) ∧ (((w'.setCell ⟨w.heap.size + 1, 0, none⟩ u0).setCell ⟨w.heap.size + 1, 1, none⟩ u1).setCell ⟨w.heap.size + 1, 2, none⟩ u2).cell? ⟨w.heap.size, 2, none⟩ = some (.int .i64 L))) := Lib.hid fun w' u0 u1 u2 h =>
    have hh := (((HK.out _ h).set (k := 1) rfl 0 u0).set (k := 1) rfl 1 u1).set (k := 1) rfl 2 u2
    ⟨hh.cell (k := 0) (i := 0) rfl rfl, hh.cell (k := 0) (i := 1) rfl rfl, hh.cell (k := 0) (i := 2) rfl rfl⟩
  have Ha : Hid (Below W.heap.size W (W.alloc (.cells (Array.replicate S.length (.int .i64 0)) 3)).drew) := Lib.hid ((Below.refl W.heap.size W).alloc (Nat.le_refl _) _).drew
  have Hza : Hid (Row (W.alloc (.cells (Array.replicate S.length (.int .i64 0)) 3)).drew W.heap.size 3 (ints (List.replicate S.length 0))) := Lib.hid (by rw [← zeros_ints]; exact Row.new W _ _)
  go_region_held3 (fun w' => w'.cell? ⟨w.heap.size, 0, none⟩ = some (.slice aS S.length cS) ∧ w'.cell? ⟨w.heap.size, 1, none⟩ = some (.slice aM M.length cM) ∧ w'.cell? ⟨w.heap.size, 2, none⟩ = some (.int .i64 L))
    (first
      | with_reducible exact HKS.out _ Hr.out
      | with_reducible exact HKS.out _ Ha.out
      | with_reducible exact HKS.out _ (Hr.out.alloc Hr.out.size _)
      | with_reducible exact HKT.out _ _ _ _ Hr.out)
    (first
      | ((with_reducible refine (HNG.out _ Hr.out).mono ?_); rintro e w5 ⟨b5, rfl, hr5, hb5, hlo5⟩; have Hn := Lib.hid hr5; have Hlo5 := Lib.hid (Nat.le_trans Hr.out.size hlo5); replace Hr := Lib.hid (below_of Hr.out hb5 Hr.out.size); clear hr5 hlo5 hb5)
      | ((with_reducible refine (HNG.out _ Ha.out).mono ?_); rintro e w5 ⟨b5, rfl, hr5, hb5, hlo5⟩; have Hn := Lib.hid hr5; have Hlo5 := Lib.hid (Nat.le_trans Ha.out.size hlo5); have Hz := Lib.hid (Hza.out.later hb5 Hza.out.lt); replace Hr := Lib.hid (below_of Ha.out hb5 Ha.out.size); clear hr5 hlo5 hb5)
      | ((with_reducible refine (HMV.out _ _ Hr.out Hz.out).mono ?_); rintro e w6 ⟨b6, rfl, hr6, hb6, hlo6⟩; have Hm := Lib.hid hr6; have Hlo6 := Lib.hid (Nat.le_trans Hr.out.size hlo6); replace Hn := Lib.hid (Hn.out.later hb6 Hn.out.lt); replace Hr := Lib.hid (below_of Hr.out hb6 Hr.out.size); clear hr6 hlo6 hb6; have hd0 := (HK.out _ Hr.out).cell (k := 1) (i := 0) rfl rfl; have hf0 := (HK.out _ Hr.out).frozen (k := 1) rfl 0; have hd1 := (HK.out _ Hr.out).cell (k := 1) (i := 1) rfl rfl; have hf1 := (HK.out _ Hr.out).frozen (k := 1) rfl 1; have hd2 := (HK.out _ Hr.out).cell (k := 1) (i := 2) rfl rfl; have hf2 := (HK.out _ Hr.out).frozen (k := 1) rfl 2)
      | ((with_reducible refine (HMV.out _ _ (Hr.out.alloc Hr.out.size _) (by rw [← zeros_ints]; exact Row.new _ _ _)).mono ?_); rintro e w6 ⟨b6, rfl, hr6, hb6, hlo6⟩; have Hm := Lib.hid hr6; have Hlo6 := Lib.hid (Nat.le_trans (Hr.out.alloc Hr.out.size _).size hlo6); replace Hn := Lib.hid ((Hn.out.alloc _).later hb6 (Hn.out.alloc _).lt); replace Hr := Lib.hid (below_of (Hr.out.alloc Hr.out.size _) hb6 (Hr.out.alloc Hr.out.size _).size); clear hr6 hlo6 hb6; have hd0 := (HK.out _ Hr.out).cell (k := 1) (i := 0) rfl rfl; have hf0 := (HK.out _ Hr.out).frozen (k := 1) rfl 0; have hd1 := (HK.out _ Hr.out).cell (k := 1) (i := 1) rfl rfl; have hf1 := (HK.out _ Hr.out).frozen (k := 1) rfl 1; have hd2 := (HK.out _ Hr.out).cell (k := 1) (i := 2) rfl rfl; have hf2 := (HK.out _ Hr.out).frozen (k := 1) rfl 2))
  all_goals
    clear hd0 hd1 hd2 hf0 hf1 hf2
    have H8 := Lib.hid (HK.out _ Hr.out)
    have H9 := Lib.hid (((H8.out.set (k := 1) rfl 0 (.slice (some ⟨b5, 0, none⟩) S.length S.length)).set (k := 1) rfl 1 (.slice (some ⟨b6, 0, none⟩) M.length M.length)).set (k := 1) rfl 2 (.int .i64 L))
    have hF0 := H9.out.cell (k := 1) (i := 0) rfl rfl
    have hF1 := H9.out.cell (k := 1) (i := 1) rfl rfl
    have hF2 := H9.out.cell (k := 1) (i := 2) rfl rfl
    go_wp2_with fail
    refine bodyPost_ret (v := .agg #[.slice (some ⟨b5, 0, none⟩) S.length S.length, .slice (some ⟨b6, 0, none⟩) M.length M.length, .int .i64 L]) (by simp [results, Try.results49, go_sem, hF0, hF1, hF2]) rfl ?_
    have h5 := (Hn.out.own (Nat.le_trans Hsz.out Hlo5.out)).box (H8.out.row (k := 1) rfl) (.slice (some ⟨b5, 0, none⟩) S.length S.length) (.slice (some ⟨b6, 0, none⟩) M.length M.length) (.int .i64 L)
    have h6 := (Hm.out.own (Nat.le_trans Hsz.out Hlo6.out)).box (H8.out.row (k := 1) rfl) (.slice (some ⟨b5, 0, none⟩) S.length S.length) (.slice (some ⟨b6, 0, none⟩) M.length M.length) (.int .i64 L)
    rw [ints_length, mulS_len] at h5
    rw [ints_length, mvL_len] at h6
    exact ⟨_, _, _, _, rfl, h5, h6, H9.out.below⟩
end Go.Proofs.Ytkopbcehfbmnmaa
