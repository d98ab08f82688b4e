/- The walk of layer 6's awake. -/
import Derived.Test.YtkopbcehfbmnmaaLaw6A
import Derived.Test.YtkopbcehfbmnmaaMirFW
import Derived.Test.YtkopbcehfbmnmaaSmoW
namespace Go.Proofs.Ytkopbcehfbmnmaa
open Go Go.RowKit
def exS6 : List Int := [1]
def exM6 : List Int := [1, 0, 3, 2]
theorem ex6_v : vldB exS6 exM6 0 = true := by decide +kernel
theorem ex6_e : eqD (mulS exS6 (swS fun _ => true)) (mvL (trn (swB exS6 fun _ => true)) exM6) 0 [-1] [3, 2, 1, 0] 0 = true := by decide +kernel
theorem ex6_n : newL exM6 (pS exS6 0) 0 = 2 := by decide +kernel
set_option maxRecDepth 100000 in
set_option maxHeartbeats 8000000 in
theorem awake6_any (w : World) :
    Calls Try.prog 41 #[] w fun e w' => e = .returned (.bool true) ∧ Below w.heap.size w w' := by
  obtain ⟨SA, hSA⟩ : ∃ x, x = mulS exS6 (swS fun _ => true) := ⟨_, rfl⟩
  obtain ⟨MA, hMA⟩ : ∃ x, x = mvL (trn (swB exS6 fun _ => true)) exM6 := ⟨_, rfl⟩
  obtain ⟨SB, hSB⟩ : ∃ x, x = smS exS6 0 := ⟨_, rfl⟩
  obtain ⟨MB, hMB⟩ : ∃ x, x = smM exS6 exM6 0 := ⟨_, rfl⟩
  obtain ⟨LB, hLB⟩ : ∃ x : Int, x = 0 + (newL exM6 (pS exS6 0) 0 : Nat) := ⟨_, rfl⟩
  have hl0 : MB.length = 0 := by rw [hMB]; rfl
  have hl2 : LB = 2 := by rw [hLB, ex6_n]; rfl
  have HE : Hid (eqD SA MA 0 [-1] [3, 2, 1, 0] 0 = true) := Lib.hid (by rw [hSA, hMA]; exact ex6_e)
  have HlA : Hid (SA.length ≤ 1000000000 ∧ MA.length ≤ 1000000000) := Lib.hid (by rw [hSA, hMA, mulS_len, mvL_len]; decide)
  have H43 : Hid (∀ (W : World) (a b : Option Addr), IntsAt W a exS6 → IntsAt W b exM6 → Calls Try.prog 43 #[.agg #[.slice a 1 1, .slice b 4 4, .int .i64 0]] W (DgR W SA MA 0 0)) := Lib.hid fun W a b h1 h2 => by
    rw [hSA, hMA]; exact mirrorF_yes exS6 exM6 0 a b 1 4 W ex6_v h1 h2
  have H57 : Hid (∀ (W : World) (a b : Option Addr), IntsAt W a exS6 → IntsAt W b exM6 → Calls Try.prog 57 #[.agg #[.slice a 1 1, .slice b 4 4, .int .i64 0], .int .i64 0] W (DgR W SB MB LB 0)) := Lib.hid fun W a b h1 h2 => by
    refine smooth_yes exS6 exM6 0 a b 1 4 0 W _ (fun _ e w' h => ?_) (fun g => absurd (by rw [ex6_n]; decide) g) ex6_v (by decide) h1 h2
    rw [hSB, hMB, hLB]; exact h
  clear hSA hMA hSB hMB hLB
  subst hl2
  go_enter Try.func41, Try.ntmps41
  go_upto_region 2 with fail
  obtain ⟨W, hW⟩ : ∃ W, W = ((w.alloc (.cells #[.int .i64 1] 3)).alloc (.cells #[.int .i64 1, .int .i64 0, .int .i64 3, .int .i64 2] 3)).alloc (.cells #[.slice (some ⟨w.heap.size, 0, none⟩) 1 1, .slice (some ⟨w.heap.size + 1, 0, none⟩) 4 4, .int .i64 0] 24) := ⟨_, rfl⟩
  rw [← hW]
  have h0 : HH w W [(w.heap.size, rowO 3 (ints exS6)), (w.heap.size + 1, rowO 3 (ints exM6)), (w.heap.size + 1 + 1, rowO 24 [.slice (some ⟨w.heap.size, 0, none⟩) 1 1, .slice (some ⟨w.heap.size + 1, 0, none⟩) 4 4, .int .i64 0])] [] := by
    rw [hW]; exact (((HH.start w).alloc #[.int .i64 1] 3 rfl rfl).alloc #[.int .i64 1, .int .i64 0, .int .i64 3, .int .i64 2] 3 (by simp) rfl).alloc #[.slice (some ⟨w.heap.size, 0, none⟩) 1 1, .slice (some ⟨w.heap.size + 1, 0, none⟩) 4 4, .int .i64 0] 24 (by simp) rfl
  have H0 := Lib.hid h0
  clear h0 hW
  have hc0 := H0.out.cell (k := 2) (i := 0) rfl rfl
  have hc1 := H0.out.cell (k := 2) (i := 1) rfl rfl
  have hc2 := H0.out.cell (k := 2) (i := 2) rfl rfl
  go_wp2_with fail
  refine (H43.out W _ _ (H0.out.row (k := 0) rfl).at (H0.out.row (k := 1) rfl).at).mono ?_
  rintro e w1 ⟨aA, bA, cA, dA, rfl, hiA, hjA, hb1⟩
  have H1 := Lib.hid (H0.out.call hb1)
  have HIA := Lib.hid (And.intro hiA hjA)
  clear hb1 hiA hjA hc0 hc1 hc2 H0
  go_upto_region 3 with fail
  obtain ⟨v1, hv1⟩ : ∃ x, x = w1.alloc (.cells #[.slice aA SA.length cA, .slice bA MA.length dA, .int .i64 0] 24) := ⟨_, rfl⟩
  rw [← hv1]
  have h2 : HH w v1 [(w.heap.size, rowO 3 (ints exS6)), (w.heap.size + 1, rowO 3 (ints exM6)), (w.heap.size + 1 + 1, rowO 24 [.slice (some ⟨w.heap.size, 0, none⟩) 1 1, .slice (some ⟨w.heap.size + 1, 0, none⟩) 4 4, .int .i64 0]), (w1.heap.size, rowO 24 [.slice aA SA.length cA, .slice bA MA.length dA, .int .i64 0])] [] := by
    rw [hv1]; exact H1.out.alloc #[.slice aA SA.length cA, .slice bA MA.length dA, .int .i64 0] 24 rfl rfl
  have hb12 : Below w1.heap.size w1 v1 := by rw [hv1]; exact (Below.refl _ _).alloc (Nat.le_refl _) _
  have H2 := Lib.hid h2
  have HIv : Hid (∀ W', Below v1.heap.size v1 W' → IntsAt W' aA SA ∧ IntsAt W' bA MA) := Lib.hid fun W' h => ⟨(HIA.out.1.later hb12).later h, (HIA.out.2.later hb12).later h⟩
  generalize w1.heap.size = bx at *
  clear hv1 h2 hb12 H1 HIA
  have hc0 := H2.out.cell (k := 2) (i := 0) rfl rfl
  have hc1 := H2.out.cell (k := 2) (i := 1) rfl rfl
  have hc2 := H2.out.cell (k := 2) (i := 2) rfl rfl
  go_wp2_with fail
  refine (H57.out v1 _ _ (H2.out.row (k := 0) rfl).at (H2.out.row (k := 1) rfl).at).mono ?_
  rintro e w3 ⟨aB, bB, cB, dB, rfl, hiB, hjB, hb3⟩
  have H3 := Lib.hid (H2.out.call hb3)
  have Hb3 := Lib.hid hb3
  clear hb3 hiB hjB hc0 hc1 hc2 H2
  go_upto_region 4 with fail
  obtain ⟨v3, hv3⟩ : ∃ x, x = w3.alloc (.cells #[.slice aB SB.length cB, .slice bB 0 dB, .int .i64 2] 24) := ⟨_, rfl⟩
  rw [← hv3]
  have h4 : HH w v3 [(w.heap.size, rowO 3 (ints exS6)), (w.heap.size + 1, rowO 3 (ints exM6)), (w.heap.size + 1 + 1, rowO 24 [.slice (some ⟨w.heap.size, 0, none⟩) 1 1, .slice (some ⟨w.heap.size + 1, 0, none⟩) 4 4, .int .i64 0]), (bx, rowO 24 [.slice aA SA.length cA, .slice bA MA.length dA, .int .i64 0]), (w3.heap.size, rowO 24 [.slice aB SB.length cB, .slice bB 0 dB, .int .i64 2])] [] := by
    rw [hv3]; exact H3.out.alloc #[.slice aB SB.length cB, .slice bB 0 dB, .int .i64 2] 24 rfl rfl
  have H4 := Lib.hid h4
  have Hb3v : Hid (Below v1.heap.size v1 v3) := Lib.hid (below_step Hb3.out (by rw [hv3]; exact (Below.refl _ _).alloc (Nat.le_refl _) _))
  generalize w3.heap.size = by3 at *
  clear hv3 h4 H3 Hb3
  have hc0 := H4.out.cell (k := 3) (i := 0) rfl rfl
  have hc1 := H4.out.cell (k := 3) (i := 1) rfl rfl
  have hc2 := H4.out.cell (k := 3) (i := 2) rfl rfl
  obtain ⟨v5, hv5⟩ : ∃ x, x = (v3.alloc (.cells #[.int .i64 (-1)] 3)).alloc (.cells #[.int .i64 3, .int .i64 2, .int .i64 1, .int .i64 0] 3) := ⟨_, rfl⟩
  have h5 : HH w v5 [(w.heap.size, rowO 3 (ints exS6)), (w.heap.size + 1, rowO 3 (ints exM6)), (w.heap.size + 1 + 1, rowO 24 [.slice (some ⟨w.heap.size, 0, none⟩) 1 1, .slice (some ⟨w.heap.size + 1, 0, none⟩) 4 4, .int .i64 0]), (bx, rowO 24 [.slice aA SA.length cA, .slice bA MA.length dA, .int .i64 0]), (by3, rowO 24 [.slice aB SB.length cB, .slice bB 0 dB, .int .i64 2]), (v3.heap.size, rowO 3 (ints [-1])), (v3.heap.size + 1, rowO 3 (ints [3, 2, 1, 0]))] [] := by
    rw [hv5]; exact (H4.out.alloc #[.int .i64 (-1)] 3 rfl rfl).alloc #[.int .i64 3, .int .i64 2, .int .i64 1, .int .i64 0] 3 (by simp) rfl
  have H5 := Lib.hid h5
  have hb35 : Below v3.heap.size v3 v5 := by rw [hv5]; exact ((Below.refl _ _).alloc (Nat.le_refl _) _).alloc (by simp) _
  have H47 : Hid (Calls Try.prog 47 #[.agg #[.slice aA SA.length cA, .slice bA MA.length dA, .int .i64 0], .agg #[.slice (some ⟨v3.heap.size, 0, none⟩) 1 1, .slice (some ⟨v3.heap.size + 1, 0, none⟩) 4 4, .int .i64 0]] v5 fun e w' => e = .returned (.bool true) ∧ Below v5.heap.size v5 w') := Lib.hid (by
    have h := equalR_any SA MA [-1] [3, 2, 1, 0] 0 0 aA bA (some ⟨v3.heap.size, 0, none⟩) (some ⟨v3.heap.size + 1, 0, none⟩) cA dA 1 4 v5 HlA.out.1 HlA.out.2 (HIv.out v5 (below_step Hb3v.out hb35)).1 (HIv.out v5 (below_step Hb3v.out hb35)).2 (h5.row (k := 5) rfl).at (h5.row (k := 6) rfl).at
    rw [HE.out] at h
    exact h)
  clear h5 hb35
  go_wp2_with fail
  rw [← hv5]
  clear hv5 hc0 hc1 hc2
  refine H47.out.mono ?_
  rintro e w6 ⟨rfl, hb6⟩
  have H6 := Lib.hid (H5.out.call hb6)
  clear hb6 H5 H47
  have hc1 := H6.out.cell (k := 4) (i := 1) rfl rfl
  have hc2 := H6.out.cell (k := 4) (i := 2) rfl rfl
  go_wp2_with fail
  go_ret
  exact ⟨rfl, H6.out.below⟩
end Go.Proofs.Ytkopbcehfbmnmaa
