/- The reference's Nugatory and Alternating. -/
import Derived.Test.YtmjoijfafachhaaRFdW
namespace Go.Proofs.Ytmjoijfafachhaa
open Go Go.RowKit
set_option maxRecDepth 100000 in
set_option maxHeartbeats 8000000 in
theorem rnug_any (S M : List Int) (L : Int) (aS aM : Option Addr) (cS cM : Nat) (w : World) (hv : vldB S M L = true) (hS : IntsAt w aS S) (hM : IntsAt w aM M) :
    Calls Try.prog 38 #[.agg #[.slice aS S.length cS, .slice aM M.length cM, .int .i64 L]] w fun e w' => ∃ A C, e = .returned (.slice A (nugL S M).length C) ∧ Own w' w.heap.size 3 A C (ints (nats (nugL S M))) ∧ Below w.heap.size w w' := by
  have hs := vldB_shape hv
  have hfw := hs.few
  have hml := hs.len
  have HF : Hid (∀ W', Below w.heap.size w W' → Calls Try.prog 62 #[.slice aM M.length cM] W' fun e w' => ∃ a c, e = .returned (.slice a M.length c) ∧ Own w' W'.heap.size 3 a c (ints (rfcL M S.length)) ∧ Below W'.heap.size W' w') := Lib.hid fun W' h => by
    have g := rfaces7_any M S.length aM cM W' hfw hs.mates2 hs.len (hM.later h)
    rw [← hs.len] at g; exact g
  have hFl : (rfcL M S.length).length = 4 * S.length := rfcTo_len _ _ _
  have hN : M.length ≤ 256 := by omega
  have hN4 : 4 * S.length ≤ M.length := by omega
  rw [← rnugL hv]
  obtain ⟨i0, hi0, hz0, hz1, hz2⟩ := info_parts Try.info3
  have H0 := Lib.hid ((HH.start w).alloc #[.slice aS S.length cS, .slice aM M.length cM, .int .i64 L] 24 rfl rfl)
  clear hs hml hS hM hv
  generalize rfcL M S.length = F at *
  generalize S.length = n at *
  generalize M.length = N at *
  have Hnl := Lib.hid (rnugTo_len F)
  have k1 := H0.out.cell (k := 0) (i := 1) rfl rfl
  go_enter Try.func38, Try.ntmps38
  go_wp2_with fail
  clear k1
  refine (HF.out _ H0.out.below).mono ?_
  rintro e w1 ⟨aF, cF, rfl, ho, hb⟩
  have H1 := Lib.hid ((H0.out.addSl hb ho).addNil 3)
  clear hb ho H0 HF
  go_wp2_with fail
  go_loopg [5, 4] n (fun g v s4 wr => ∃ (i : Nat) (A : Option Addr) (C : Nat), i ≤ n ∧ g = n - i ∧ v = .int .i64 i ∧ s4 = .slice A (rnugTo F i).length C ∧ HH w wr [(w.heap.size, rowO 24 [.slice aS n cS, .slice aM N cM, .int .i64 L])] [⟨aF, cF, 3, ints F⟩, ⟨A, C, 3, ints (nats (rnugTo F i))⟩])
  case atStart => exact ⟨0, none, 0, Nat.zero_le _, rfl, rfl, rfl, H1.out⟩
  case round =>
    obtain ⟨i, A, C, hi, rfl, rfl, rfl, hh⟩ := hrel
    have Hh := Lib.hid hh
    clear hh H1
    have k0 := Hh.out.cell (k := 0) (i := 0) rfl rfl
    have hnl := Hnl.out i
    by_cases hil : i < n
    · have HYes := Lib.hid (rnugTo_yes (F := F) (k := i))
      have HNo := Lib.hid (rnugTo_no (F := F) (k := i))
      have HB : Hid (rnugB F i = (nth F (4 * i) == nth F (4 * i + 2) || nth F (4 * i + 1) == nth F (4 * i + 3) || nth F (4 * i) == nth F (4 * i + 1) || nth F (4 * i + 1) == nth F (4 * i + 2) || nth F (4 * i + 2) == nth F (4 * i + 3) || nth F (4 * i + 3) == nth F (4 * i))) := Lib.hid rfl
      rw [HB.out] at HYes HNo
      obtain ⟨bF, oF, rfl, _, _, _, _⟩ := (Hh.out.sl (k := 0) rfl).open (by show 0 < (ints F).length; rw [ints_length]; omega)
      have HKS : Hid (∀ (W' : World) (z : List SlO), HH w W' [(w.heap.size, rowO 24 [.slice aS n cS, .slice aM N cM, .int .i64 L])] (⟨some ⟨bF, oF, none⟩, cF, 3, ints F⟩ :: z) → W'.cell? ⟨bF, oF + 4 * i, none⟩ = some (.int .i64 (nth F (4 * i))) ∧ W'.cell? ⟨bF, oF + (4 * i + 1), none⟩ = some (.int .i64 (nth F (4 * i + 1))) ∧ W'.cell? ⟨bF, oF + (4 * i + 2), none⟩ = some (.int .i64 (nth F (4 * i + 2))) ∧ W'.cell? ⟨bF, oF + (4 * i + 3), none⟩ = some (.int .i64 (nth F (4 * i + 3)))) := Lib.hid fun W' z h => by
        obtain ⟨b9, o9, e9, _, _, hc9, _⟩ := (h.sl (k := 0) rfl).open (by show 0 < (ints F).length; rw [ints_length]; omega)
        cases e9
        exact ⟨hc9 _ _ (ints_get F _ (by omega)), hc9 _ _ (ints_get F _ (by omega)), hc9 _ _ (ints_get F _ (by omega)), hc9 _ _ (ints_get F _ (by omega))⟩
      clear HB
      generalize nth F (4 * i) = f0 at *
      generalize nth F (4 * i + 1) = f1 at *
      generalize nth F (4 * i + 2) = f2 at *
      generalize nth F (4 * i + 3) = f3 at *
      obtain ⟨a0, ha0⟩ : ∃ a0, a0 = 4 * i := ⟨_, rfl⟩
      obtain ⟨a1, ha1⟩ : ∃ a1, a1 = 4 * i + 1 := ⟨_, rfl⟩
      obtain ⟨a2, ha2⟩ : ∃ a2, a2 = 4 * i + 2 := ⟨_, rfl⟩
      obtain ⟨a3, ha3⟩ : ∃ a3, a3 = 4 * i + 3 := ⟨_, rfl⟩
      have v0 : IntKind.i64.wrap (4 * (i : Int)) = (a0 : Int) := by rw [wrapi_mid (by omega) (by omega)]; omega
      have v1 : IntKind.i64.wrap ((a0 : Int) + 1) = (a1 : Int) := by rw [wrapi_mid (by omega) (by omega)]; omega
      have v2 : IntKind.i64.wrap ((a0 : Int) + 2) = (a2 : Int) := by rw [wrapi_mid (by omega) (by omega)]; omega
      have v3 : IntKind.i64.wrap ((a0 : Int) + 3) = (a3 : Int) := by rw [wrapi_mid (by omega) (by omega)]; omega
      have b0 : a0 < N := by omega
      have b1 : a1 < N := by omega
      have b2 : a2 < N := by omega
      have b3 : a3 < N := by omega
      rw [← ha1, ← ha2, ← ha3, ← ha0] at HKS
      clear ha0 ha1 ha2 ha3
      go_wp2_with fail
      clear k0
      cases t0 : (f0 == f2)
      · cases t1 : (f1 == f3)
        · cases t2 : (f0 == f1)
          · cases t3 : (f1 == f2)
            · cases t4 : (f2 == f3)
              · cases t5 : (f3 == f0)
                · have HNo := Lib.hid (HNo.out (by simp [t0, t1, t2, t3, t4, t5]))
                  refine wp_region_class (fun W => HH w W [(w.heap.size, rowO 24 [.slice aS n cS, .slice aM N cM, .int .i64 L])] [⟨some ⟨bF, oF, none⟩, cF, 3, ints F⟩, ⟨A, C, 3, ints (nats (rnugTo F i))⟩]) (by kernel_rfl) (by kernel_rfl) Hh.out.drew ?_
                  refine no_implicit_lambda% (wpQuiet_move (.tmp 3) (.slice (some ⟨bF, oF, none⟩) N cF) rfl rfl (by kernel_rfl) ?_)
                  simp only [Act.put, List.setIfInBounds_toArray, List.set_cons_succ, List.set_cons_zero]
                  refine no_implicit_lambda% (wpQuiet_move (.tmp 5) (.int .i64 (i : Int)) rfl rfl (by kernel_rfl) ?_)
                  simp only [Act.put, List.setIfInBounds_toArray, List.set_cons_succ, List.set_cons_zero]
                  refine no_implicit_lambda% (wpQuiet_val (.int .i64 (a0 : Int)) rfl (fun W' hW' => ?_) ?_)
                  · obtain ⟨i1, i2, i3, i4⟩ := HKS.out W' _ hW'
                    go_simp
                  simp only [Act.put, List.setIfInBounds_toArray, List.set_cons_succ, List.set_cons_zero]
                  refine no_implicit_lambda% (wpQuiet_val (.pointer (some ⟨bF, oF + a0, none⟩)) rfl (fun W' hW' => ?_) ?_)
                  · obtain ⟨i1, i2, i3, i4⟩ := HKS.out W' _ hW'
                    go_simp
                  simp only [Act.put, List.setIfInBounds_toArray, List.set_cons_succ, List.set_cons_zero]
                  refine no_implicit_lambda% (wpQuiet_val (.int .i64 (f0)) rfl (fun W' hW' => ?_) ?_)
                  · obtain ⟨i1, i2, i3, i4⟩ := HKS.out W' _ hW'
                    go_simp
                  simp only [Act.put, List.setIfInBounds_toArray, List.set_cons_succ, List.set_cons_zero]
                  refine no_implicit_lambda% (wpQuiet_move (.tmp 3) (.slice (some ⟨bF, oF, none⟩) N cF) rfl rfl (by kernel_rfl) ?_)
                  simp only [Act.put, List.setIfInBounds_toArray, List.set_cons_succ, List.set_cons_zero]
                  refine no_implicit_lambda% (wpQuiet_move (.tmp 5) (.int .i64 (i : Int)) rfl rfl (by kernel_rfl) ?_)
                  simp only [Act.put, List.setIfInBounds_toArray, List.set_cons_succ, List.set_cons_zero]
                  refine no_implicit_lambda% (wpQuiet_val (.int .i64 (a0 : Int)) rfl (fun W' hW' => ?_) ?_)
                  · obtain ⟨i1, i2, i3, i4⟩ := HKS.out W' _ hW'
                    go_simp
                  simp only [Act.put, List.setIfInBounds_toArray, List.set_cons_succ, List.set_cons_zero]
                  refine no_implicit_lambda% (wpQuiet_val (.int .i64 (a2 : Int)) rfl (fun W' hW' => ?_) ?_)
                  · obtain ⟨i1, i2, i3, i4⟩ := HKS.out W' _ hW'
                    go_simp
                  simp only [Act.put, List.setIfInBounds_toArray, List.set_cons_succ, List.set_cons_zero]
                  refine no_implicit_lambda% (wpQuiet_val (.pointer (some ⟨bF, oF + a2, none⟩)) rfl (fun W' hW' => ?_) ?_)
                  · obtain ⟨i1, i2, i3, i4⟩ := HKS.out W' _ hW'
                    go_simp
                  simp only [Act.put, List.setIfInBounds_toArray, List.set_cons_succ, List.set_cons_zero]
                  refine no_implicit_lambda% (wpQuiet_val (.int .i64 (f2)) rfl (fun W' hW' => ?_) ?_)
                  · obtain ⟨i1, i2, i3, i4⟩ := HKS.out W' _ hW'
                    go_simp
                  simp only [Act.put, List.setIfInBounds_toArray, List.set_cons_succ, List.set_cons_zero]
                  refine no_implicit_lambda% (wpQuiet_val (.bool false) rfl (fun W' hW' => ?_) ?_)
                  · obtain ⟨i1, i2, i3, i4⟩ := HKS.out W' _ hW'
                    go_simp
                  simp only [Act.put, List.setIfInBounds_toArray, List.set_cons_succ, List.set_cons_zero]
                  refine no_implicit_lambda% (wpQuiet_move (.tmp 27) (.bool false) rfl rfl (by kernel_rfl) ?_)
                  simp only [Act.put, List.setIfInBounds_toArray, List.set_cons_succ, List.set_cons_zero]
                  refine no_implicit_lambda% (wpQuietW_move (.tmp 3) (.slice (some ⟨bF, oF, none⟩) N cF) (by kernel_rfl) rfl (by kernel_rfl) ?_)
                  simp only [Act.put, List.setIfInBounds_toArray, List.set_cons_succ, List.set_cons_zero]
                  refine no_implicit_lambda% (wpQuietW_move (.tmp 5) (.int .i64 (i : Int)) (by kernel_rfl) rfl (by kernel_rfl) ?_)
                  simp only [Act.put, List.setIfInBounds_toArray, List.set_cons_succ, List.set_cons_zero]
                  refine no_implicit_lambda% (wpQuietW_val (.int .i64 (a0 : Int)) (by kernel_rfl) (fun W' hW' => ?_) ?_)
                  · obtain ⟨i1, i2, i3, i4⟩ := HKS.out W' _ hW'
                    go_simp
                  simp only [Act.put, List.setIfInBounds_toArray, List.set_cons_succ, List.set_cons_zero]
                  refine no_implicit_lambda% (wpQuietW_val (.int .i64 (a1 : Int)) (by kernel_rfl) (fun W' hW' => ?_) ?_)
                  · obtain ⟨i1, i2, i3, i4⟩ := HKS.out W' _ hW'
                    go_simp
                  simp only [Act.put, List.setIfInBounds_toArray, List.set_cons_succ, List.set_cons_zero]
                  refine no_implicit_lambda% (wpQuietW_val (.pointer (some ⟨bF, oF + a1, none⟩)) (by kernel_rfl) (fun W' hW' => ?_) ?_)
                  · obtain ⟨i1, i2, i3, i4⟩ := HKS.out W' _ hW'
                    go_simp
                  simp only [Act.put, List.setIfInBounds_toArray, List.set_cons_succ, List.set_cons_zero]
                  refine no_implicit_lambda% (wpQuietW_val (.int .i64 (f1)) (by kernel_rfl) (fun W' hW' => ?_) ?_)
                  · obtain ⟨i1, i2, i3, i4⟩ := HKS.out W' _ hW'
                    go_simp
                  simp only [Act.put, List.setIfInBounds_toArray, List.set_cons_succ, List.set_cons_zero]
                  refine no_implicit_lambda% (wpQuietW_move (.tmp 3) (.slice (some ⟨bF, oF, none⟩) N cF) (by kernel_rfl) rfl (by kernel_rfl) ?_)
                  simp only [Act.put, List.setIfInBounds_toArray, List.set_cons_succ, List.set_cons_zero]
                  refine no_implicit_lambda% (wpQuietW_move (.tmp 5) (.int .i64 (i : Int)) (by kernel_rfl) rfl (by kernel_rfl) ?_)
                  simp only [Act.put, List.setIfInBounds_toArray, List.set_cons_succ, List.set_cons_zero]
                  refine no_implicit_lambda% (wpQuietW_val (.int .i64 (a0 : Int)) (by kernel_rfl) (fun W' hW' => ?_) ?_)
                  · obtain ⟨i1, i2, i3, i4⟩ := HKS.out W' _ hW'
                    go_simp
                  simp only [Act.put, List.setIfInBounds_toArray, List.set_cons_succ, List.set_cons_zero]
                  refine no_implicit_lambda% (wpQuietW_val (.int .i64 (a3 : Int)) (by kernel_rfl) (fun W' hW' => ?_) ?_)
                  · obtain ⟨i1, i2, i3, i4⟩ := HKS.out W' _ hW'
                    go_simp
                  simp only [Act.put, List.setIfInBounds_toArray, List.set_cons_succ, List.set_cons_zero]
                  refine no_implicit_lambda% (wpQuietW_val (.pointer (some ⟨bF, oF + a3, none⟩)) (by kernel_rfl) (fun W' hW' => ?_) ?_)
                  · obtain ⟨i1, i2, i3, i4⟩ := HKS.out W' _ hW'
                    go_simp
                  simp only [Act.put, List.setIfInBounds_toArray, List.set_cons_succ, List.set_cons_zero]
                  refine no_implicit_lambda% (wpQuietW_val (.int .i64 (f3)) (by kernel_rfl) (fun W' hW' => ?_) ?_)
                  · obtain ⟨i1, i2, i3, i4⟩ := HKS.out W' _ hW'
                    go_simp
                  simp only [Act.put, List.setIfInBounds_toArray, List.set_cons_succ, List.set_cons_zero]
                  refine no_implicit_lambda% (wpQuietW_val (.bool false) (by kernel_rfl) (fun W' hW' => ?_) ?_)
                  · obtain ⟨i1, i2, i3, i4⟩ := HKS.out W' _ hW'
                    go_simp
                  simp only [Act.put, List.setIfInBounds_toArray, List.set_cons_succ, List.set_cons_zero]
                  refine no_implicit_lambda% (wpQuiet_val (.bool false) rfl (fun W' hW' => ?_) ?_)
                  · obtain ⟨i1, i2, i3, i4⟩ := HKS.out W' _ hW'
                    go_simp
                  simp only [Act.put, List.setIfInBounds_toArray, List.set_cons_succ, List.set_cons_zero]
                  refine no_implicit_lambda% (wpQuiet_move (.tmp 42) (.bool false) rfl rfl (by kernel_rfl) ?_)
                  simp only [Act.put, List.setIfInBounds_toArray, List.set_cons_succ, List.set_cons_zero]
                  refine no_implicit_lambda% (wpQuietW_move (.tmp 3) (.slice (some ⟨bF, oF, none⟩) N cF) (by kernel_rfl) rfl (by kernel_rfl) ?_)
                  simp only [Act.put, List.setIfInBounds_toArray, List.set_cons_succ, List.set_cons_zero]
                  refine no_implicit_lambda% (wpQuietW_move (.tmp 5) (.int .i64 (i : Int)) (by kernel_rfl) rfl (by kernel_rfl) ?_)
                  simp only [Act.put, List.setIfInBounds_toArray, List.set_cons_succ, List.set_cons_zero]
                  refine no_implicit_lambda% (wpQuietW_val (.int .i64 (a0 : Int)) (by kernel_rfl) (fun W' hW' => ?_) ?_)
                  · obtain ⟨i1, i2, i3, i4⟩ := HKS.out W' _ hW'
                    go_simp
                  simp only [Act.put, List.setIfInBounds_toArray, List.set_cons_succ, List.set_cons_zero]
                  refine no_implicit_lambda% (wpQuietW_val (.pointer (some ⟨bF, oF + a0, none⟩)) (by kernel_rfl) (fun W' hW' => ?_) ?_)
                  · obtain ⟨i1, i2, i3, i4⟩ := HKS.out W' _ hW'
                    go_simp
                  simp only [Act.put, List.setIfInBounds_toArray, List.set_cons_succ, List.set_cons_zero]
                  refine no_implicit_lambda% (wpQuietW_val (.int .i64 (f0)) (by kernel_rfl) (fun W' hW' => ?_) ?_)
                  · obtain ⟨i1, i2, i3, i4⟩ := HKS.out W' _ hW'
                    go_simp
                  simp only [Act.put, List.setIfInBounds_toArray, List.set_cons_succ, List.set_cons_zero]
                  refine no_implicit_lambda% (wpQuietW_move (.tmp 3) (.slice (some ⟨bF, oF, none⟩) N cF) (by kernel_rfl) rfl (by kernel_rfl) ?_)
                  simp only [Act.put, List.setIfInBounds_toArray, List.set_cons_succ, List.set_cons_zero]
                  refine no_implicit_lambda% (wpQuietW_move (.tmp 5) (.int .i64 (i : Int)) (by kernel_rfl) rfl (by kernel_rfl) ?_)
                  simp only [Act.put, List.setIfInBounds_toArray, List.set_cons_succ, List.set_cons_zero]
                  refine no_implicit_lambda% (wpQuietW_val (.int .i64 (a0 : Int)) (by kernel_rfl) (fun W' hW' => ?_) ?_)
                  · obtain ⟨i1, i2, i3, i4⟩ := HKS.out W' _ hW'
                    go_simp
                  simp only [Act.put, List.setIfInBounds_toArray, List.set_cons_succ, List.set_cons_zero]
                  refine no_implicit_lambda% (wpQuietW_val (.int .i64 (a1 : Int)) (by kernel_rfl) (fun W' hW' => ?_) ?_)
                  · obtain ⟨i1, i2, i3, i4⟩ := HKS.out W' _ hW'
                    go_simp
                  simp only [Act.put, List.setIfInBounds_toArray, List.set_cons_succ, List.set_cons_zero]
                  refine no_implicit_lambda% (wpQuietW_val (.pointer (some ⟨bF, oF + a1, none⟩)) (by kernel_rfl) (fun W' hW' => ?_) ?_)
                  · obtain ⟨i1, i2, i3, i4⟩ := HKS.out W' _ hW'
                    go_simp
                  simp only [Act.put, List.setIfInBounds_toArray, List.set_cons_succ, List.set_cons_zero]
                  refine no_implicit_lambda% (wpQuietW_val (.int .i64 (f1)) (by kernel_rfl) (fun W' hW' => ?_) ?_)
                  · obtain ⟨i1, i2, i3, i4⟩ := HKS.out W' _ hW'
                    go_simp
                  simp only [Act.put, List.setIfInBounds_toArray, List.set_cons_succ, List.set_cons_zero]
                  refine no_implicit_lambda% (wpQuietW_val (.bool false) (by kernel_rfl) (fun W' hW' => ?_) ?_)
                  · obtain ⟨i1, i2, i3, i4⟩ := HKS.out W' _ hW'
                    go_simp
                  simp only [Act.put, List.setIfInBounds_toArray, List.set_cons_succ, List.set_cons_zero]
                  refine no_implicit_lambda% (wpQuiet_val (.bool false) rfl (fun W' hW' => ?_) ?_)
                  · obtain ⟨i1, i2, i3, i4⟩ := HKS.out W' _ hW'
                    go_simp
                  simp only [Act.put, List.setIfInBounds_toArray, List.set_cons_succ, List.set_cons_zero]
                  refine no_implicit_lambda% (wpQuiet_move (.tmp 56) (.bool false) rfl rfl (by kernel_rfl) ?_)
                  simp only [Act.put, List.setIfInBounds_toArray, List.set_cons_succ, List.set_cons_zero]
                  refine no_implicit_lambda% (wpQuietW_move (.tmp 3) (.slice (some ⟨bF, oF, none⟩) N cF) (by kernel_rfl) rfl (by kernel_rfl) ?_)
                  simp only [Act.put, List.setIfInBounds_toArray, List.set_cons_succ, List.set_cons_zero]
                  refine no_implicit_lambda% (wpQuietW_move (.tmp 5) (.int .i64 (i : Int)) (by kernel_rfl) rfl (by kernel_rfl) ?_)
                  simp only [Act.put, List.setIfInBounds_toArray, List.set_cons_succ, List.set_cons_zero]
                  refine no_implicit_lambda% (wpQuietW_val (.int .i64 (a0 : Int)) (by kernel_rfl) (fun W' hW' => ?_) ?_)
                  · obtain ⟨i1, i2, i3, i4⟩ := HKS.out W' _ hW'
                    go_simp
                  simp only [Act.put, List.setIfInBounds_toArray, List.set_cons_succ, List.set_cons_zero]
                  refine no_implicit_lambda% (wpQuietW_val (.int .i64 (a1 : Int)) (by kernel_rfl) (fun W' hW' => ?_) ?_)
                  · obtain ⟨i1, i2, i3, i4⟩ := HKS.out W' _ hW'
                    go_simp
                  simp only [Act.put, List.setIfInBounds_toArray, List.set_cons_succ, List.set_cons_zero]
                  refine no_implicit_lambda% (wpQuietW_val (.pointer (some ⟨bF, oF + a1, none⟩)) (by kernel_rfl) (fun W' hW' => ?_) ?_)
                  · obtain ⟨i1, i2, i3, i4⟩ := HKS.out W' _ hW'
                    go_simp
                  simp only [Act.put, List.setIfInBounds_toArray, List.set_cons_succ, List.set_cons_zero]
                  refine no_implicit_lambda% (wpQuietW_val (.int .i64 (f1)) (by kernel_rfl) (fun W' hW' => ?_) ?_)
                  · obtain ⟨i1, i2, i3, i4⟩ := HKS.out W' _ hW'
                    go_simp
                  simp only [Act.put, List.setIfInBounds_toArray, List.set_cons_succ, List.set_cons_zero]
                  refine no_implicit_lambda% (wpQuietW_move (.tmp 3) (.slice (some ⟨bF, oF, none⟩) N cF) (by kernel_rfl) rfl (by kernel_rfl) ?_)
                  simp only [Act.put, List.setIfInBounds_toArray, List.set_cons_succ, List.set_cons_zero]
                  refine no_implicit_lambda% (wpQuietW_move (.tmp 5) (.int .i64 (i : Int)) (by kernel_rfl) rfl (by kernel_rfl) ?_)
                  simp only [Act.put, List.setIfInBounds_toArray, List.set_cons_succ, List.set_cons_zero]
                  refine no_implicit_lambda% (wpQuietW_val (.int .i64 (a0 : Int)) (by kernel_rfl) (fun W' hW' => ?_) ?_)
                  · obtain ⟨i1, i2, i3, i4⟩ := HKS.out W' _ hW'
                    go_simp
                  simp only [Act.put, List.setIfInBounds_toArray, List.set_cons_succ, List.set_cons_zero]
                  refine no_implicit_lambda% (wpQuietW_val (.int .i64 (a2 : Int)) (by kernel_rfl) (fun W' hW' => ?_) ?_)
                  · obtain ⟨i1, i2, i3, i4⟩ := HKS.out W' _ hW'
                    go_simp
                  simp only [Act.put, List.setIfInBounds_toArray, List.set_cons_succ, List.set_cons_zero]
                  refine no_implicit_lambda% (wpQuietW_val (.pointer (some ⟨bF, oF + a2, none⟩)) (by kernel_rfl) (fun W' hW' => ?_) ?_)
                  · obtain ⟨i1, i2, i3, i4⟩ := HKS.out W' _ hW'
                    go_simp
                  simp only [Act.put, List.setIfInBounds_toArray, List.set_cons_succ, List.set_cons_zero]
                  refine no_implicit_lambda% (wpQuietW_val (.int .i64 (f2)) (by kernel_rfl) (fun W' hW' => ?_) ?_)
                  · obtain ⟨i1, i2, i3, i4⟩ := HKS.out W' _ hW'
                    go_simp
                  simp only [Act.put, List.setIfInBounds_toArray, List.set_cons_succ, List.set_cons_zero]
                  refine no_implicit_lambda% (wpQuietW_val (.bool false) (by kernel_rfl) (fun W' hW' => ?_) ?_)
                  · obtain ⟨i1, i2, i3, i4⟩ := HKS.out W' _ hW'
                    go_simp
                  simp only [Act.put, List.setIfInBounds_toArray, List.set_cons_succ, List.set_cons_zero]
                  refine no_implicit_lambda% (wpQuiet_val (.bool false) rfl (fun W' hW' => ?_) ?_)
                  · obtain ⟨i1, i2, i3, i4⟩ := HKS.out W' _ hW'
                    go_simp
                  simp only [Act.put, List.setIfInBounds_toArray, List.set_cons_succ, List.set_cons_zero]
                  refine no_implicit_lambda% (wpQuiet_move (.tmp 71) (.bool false) rfl rfl (by kernel_rfl) ?_)
                  simp only [Act.put, List.setIfInBounds_toArray, List.set_cons_succ, List.set_cons_zero]
                  refine no_implicit_lambda% (wpQuietW_move (.tmp 3) (.slice (some ⟨bF, oF, none⟩) N cF) (by kernel_rfl) rfl (by kernel_rfl) ?_)
                  simp only [Act.put, List.setIfInBounds_toArray, List.set_cons_succ, List.set_cons_zero]
                  refine no_implicit_lambda% (wpQuietW_move (.tmp 5) (.int .i64 (i : Int)) (by kernel_rfl) rfl (by kernel_rfl) ?_)
                  simp only [Act.put, List.setIfInBounds_toArray, List.set_cons_succ, List.set_cons_zero]
                  refine no_implicit_lambda% (wpQuietW_val (.int .i64 (a0 : Int)) (by kernel_rfl) (fun W' hW' => ?_) ?_)
                  · obtain ⟨i1, i2, i3, i4⟩ := HKS.out W' _ hW'
                    go_simp
                  simp only [Act.put, List.setIfInBounds_toArray, List.set_cons_succ, List.set_cons_zero]
                  refine no_implicit_lambda% (wpQuietW_val (.int .i64 (a2 : Int)) (by kernel_rfl) (fun W' hW' => ?_) ?_)
                  · obtain ⟨i1, i2, i3, i4⟩ := HKS.out W' _ hW'
                    go_simp
                  simp only [Act.put, List.setIfInBounds_toArray, List.set_cons_succ, List.set_cons_zero]
                  refine no_implicit_lambda% (wpQuietW_val (.pointer (some ⟨bF, oF + a2, none⟩)) (by kernel_rfl) (fun W' hW' => ?_) ?_)
                  · obtain ⟨i1, i2, i3, i4⟩ := HKS.out W' _ hW'
                    go_simp
                  simp only [Act.put, List.setIfInBounds_toArray, List.set_cons_succ, List.set_cons_zero]
                  refine no_implicit_lambda% (wpQuietW_val (.int .i64 (f2)) (by kernel_rfl) (fun W' hW' => ?_) ?_)
                  · obtain ⟨i1, i2, i3, i4⟩ := HKS.out W' _ hW'
                    go_simp
                  simp only [Act.put, List.setIfInBounds_toArray, List.set_cons_succ, List.set_cons_zero]
                  refine no_implicit_lambda% (wpQuietW_move (.tmp 3) (.slice (some ⟨bF, oF, none⟩) N cF) (by kernel_rfl) rfl (by kernel_rfl) ?_)
                  simp only [Act.put, List.setIfInBounds_toArray, List.set_cons_succ, List.set_cons_zero]
                  refine no_implicit_lambda% (wpQuietW_move (.tmp 5) (.int .i64 (i : Int)) (by kernel_rfl) rfl (by kernel_rfl) ?_)
                  simp only [Act.put, List.setIfInBounds_toArray, List.set_cons_succ, List.set_cons_zero]
                  refine no_implicit_lambda% (wpQuietW_val (.int .i64 (a0 : Int)) (by kernel_rfl) (fun W' hW' => ?_) ?_)
                  · obtain ⟨i1, i2, i3, i4⟩ := HKS.out W' _ hW'
                    go_simp
                  simp only [Act.put, List.setIfInBounds_toArray, List.set_cons_succ, List.set_cons_zero]
                  refine no_implicit_lambda% (wpQuietW_val (.int .i64 (a3 : Int)) (by kernel_rfl) (fun W' hW' => ?_) ?_)
                  · obtain ⟨i1, i2, i3, i4⟩ := HKS.out W' _ hW'
                    go_simp
                  simp only [Act.put, List.setIfInBounds_toArray, List.set_cons_succ, List.set_cons_zero]
                  refine no_implicit_lambda% (wpQuietW_val (.pointer (some ⟨bF, oF + a3, none⟩)) (by kernel_rfl) (fun W' hW' => ?_) ?_)
                  · obtain ⟨i1, i2, i3, i4⟩ := HKS.out W' _ hW'
                    go_simp
                  simp only [Act.put, List.setIfInBounds_toArray, List.set_cons_succ, List.set_cons_zero]
                  refine no_implicit_lambda% (wpQuietW_val (.int .i64 (f3)) (by kernel_rfl) (fun W' hW' => ?_) ?_)
                  · obtain ⟨i1, i2, i3, i4⟩ := HKS.out W' _ hW'
                    go_simp
                  simp only [Act.put, List.setIfInBounds_toArray, List.set_cons_succ, List.set_cons_zero]
                  refine no_implicit_lambda% (wpQuietW_val (.bool false) (by kernel_rfl) (fun W' hW' => ?_) ?_)
                  · obtain ⟨i1, i2, i3, i4⟩ := HKS.out W' _ hW'
                    go_simp
                  simp only [Act.put, List.setIfInBounds_toArray, List.set_cons_succ, List.set_cons_zero]
                  refine no_implicit_lambda% (wpQuiet_val (.bool false) rfl (fun W' hW' => ?_) ?_)
                  · obtain ⟨i1, i2, i3, i4⟩ := HKS.out W' _ hW'
                    go_simp
                  simp only [Act.put, List.setIfInBounds_toArray, List.set_cons_succ, List.set_cons_zero]
                  refine no_implicit_lambda% (wpQuiet_move (.tmp 86) (.bool false) rfl rfl (by kernel_rfl) ?_)
                  simp only [Act.put, List.setIfInBounds_toArray, List.set_cons_succ, List.set_cons_zero]
                  refine no_implicit_lambda% (wpQuietW_move (.tmp 3) (.slice (some ⟨bF, oF, none⟩) N cF) (by kernel_rfl) rfl (by kernel_rfl) ?_)
                  simp only [Act.put, List.setIfInBounds_toArray, List.set_cons_succ, List.set_cons_zero]
                  refine no_implicit_lambda% (wpQuietW_move (.tmp 5) (.int .i64 (i : Int)) (by kernel_rfl) rfl (by kernel_rfl) ?_)
                  simp only [Act.put, List.setIfInBounds_toArray, List.set_cons_succ, List.set_cons_zero]
                  refine no_implicit_lambda% (wpQuietW_val (.int .i64 (a0 : Int)) (by kernel_rfl) (fun W' hW' => ?_) ?_)
                  · obtain ⟨i1, i2, i3, i4⟩ := HKS.out W' _ hW'
                    go_simp
                  simp only [Act.put, List.setIfInBounds_toArray, List.set_cons_succ, List.set_cons_zero]
                  refine no_implicit_lambda% (wpQuietW_val (.int .i64 (a3 : Int)) (by kernel_rfl) (fun W' hW' => ?_) ?_)
                  · obtain ⟨i1, i2, i3, i4⟩ := HKS.out W' _ hW'
                    go_simp
                  simp only [Act.put, List.setIfInBounds_toArray, List.set_cons_succ, List.set_cons_zero]
                  refine no_implicit_lambda% (wpQuietW_val (.pointer (some ⟨bF, oF + a3, none⟩)) (by kernel_rfl) (fun W' hW' => ?_) ?_)
                  · obtain ⟨i1, i2, i3, i4⟩ := HKS.out W' _ hW'
                    go_simp
                  simp only [Act.put, List.setIfInBounds_toArray, List.set_cons_succ, List.set_cons_zero]
                  refine no_implicit_lambda% (wpQuietW_val (.int .i64 (f3)) (by kernel_rfl) (fun W' hW' => ?_) ?_)
                  · obtain ⟨i1, i2, i3, i4⟩ := HKS.out W' _ hW'
                    go_simp
                  simp only [Act.put, List.setIfInBounds_toArray, List.set_cons_succ, List.set_cons_zero]
                  refine no_implicit_lambda% (wpQuietW_move (.tmp 3) (.slice (some ⟨bF, oF, none⟩) N cF) (by kernel_rfl) rfl (by kernel_rfl) ?_)
                  simp only [Act.put, List.setIfInBounds_toArray, List.set_cons_succ, List.set_cons_zero]
                  refine no_implicit_lambda% (wpQuietW_move (.tmp 5) (.int .i64 (i : Int)) (by kernel_rfl) rfl (by kernel_rfl) ?_)
                  simp only [Act.put, List.setIfInBounds_toArray, List.set_cons_succ, List.set_cons_zero]
                  refine no_implicit_lambda% (wpQuietW_val (.int .i64 (a0 : Int)) (by kernel_rfl) (fun W' hW' => ?_) ?_)
                  · obtain ⟨i1, i2, i3, i4⟩ := HKS.out W' _ hW'
                    go_simp
                  simp only [Act.put, List.setIfInBounds_toArray, List.set_cons_succ, List.set_cons_zero]
                  refine no_implicit_lambda% (wpQuietW_val (.pointer (some ⟨bF, oF + a0, none⟩)) (by kernel_rfl) (fun W' hW' => ?_) ?_)
                  · obtain ⟨i1, i2, i3, i4⟩ := HKS.out W' _ hW'
                    go_simp
                  simp only [Act.put, List.setIfInBounds_toArray, List.set_cons_succ, List.set_cons_zero]
                  refine no_implicit_lambda% (wpQuietW_val (.int .i64 (f0)) (by kernel_rfl) (fun W' hW' => ?_) ?_)
                  · obtain ⟨i1, i2, i3, i4⟩ := HKS.out W' _ hW'
                    go_simp
                  simp only [Act.put, List.setIfInBounds_toArray, List.set_cons_succ, List.set_cons_zero]
                  refine no_implicit_lambda% (wpQuietW_val (.bool false) (by kernel_rfl) (fun W' hW' => ?_) ?_)
                  · obtain ⟨i1, i2, i3, i4⟩ := HKS.out W' _ hW'
                    go_simp
                  simp only [Act.put, List.setIfInBounds_toArray, List.set_cons_succ, List.set_cons_zero]
                  refine no_implicit_lambda% (wpQuiet_val (.bool false) rfl (fun W' hW' => ?_) ?_)
                  · obtain ⟨i1, i2, i3, i4⟩ := HKS.out W' _ hW'
                    go_simp
                  simp only [Act.put, List.setIfInBounds_toArray, List.set_cons_succ, List.set_cons_zero]
                  refine no_implicit_lambda% (wpQuiet_end ?_)
                  intro w5 hw5
                  have Hx := Lib.hid hw5
                  clear hw5 v0 v1 v2 v3
                  go_wp2_with fail
                  go_roundg (n - (i + 1))
                  case measure => omega
                  case rel => exact ⟨i + 1, A, C, by omega, rfl, by go_num, by rw [HNo.out], by rw [HNo.out]; exact Hx.out⟩
                · have HYes := Lib.hid (HYes.out (by simp [t0, t1, t2, t3, t4, t5]))
                  refine wp_region_class (fun W => HH w W [(w.heap.size, rowO 24 [.slice aS n cS, .slice aM N cM, .int .i64 L])] [⟨some ⟨bF, oF, none⟩, cF, 3, ints F⟩, ⟨A, C, 3, ints (nats (rnugTo F i))⟩]) (by kernel_rfl) (by kernel_rfl) Hh.out.drew ?_
                  refine no_implicit_lambda% (wpQuiet_move (.tmp 3) (.slice (some ⟨bF, oF, none⟩) N cF) rfl rfl (by kernel_rfl) ?_)
                  simp only [Act.put, List.setIfInBounds_toArray, List.set_cons_succ, List.set_cons_zero]
                  refine no_implicit_lambda% (wpQuiet_move (.tmp 5) (.int .i64 (i : Int)) rfl rfl (by kernel_rfl) ?_)
                  simp only [Act.put, List.setIfInBounds_toArray, List.set_cons_succ, List.set_cons_zero]
                  refine no_implicit_lambda% (wpQuiet_val (.int .i64 (a0 : Int)) rfl (fun W' hW' => ?_) ?_)
                  · obtain ⟨i1, i2, i3, i4⟩ := HKS.out W' _ hW'
                    go_simp
                  simp only [Act.put, List.setIfInBounds_toArray, List.set_cons_succ, List.set_cons_zero]
                  refine no_implicit_lambda% (wpQuiet_val (.pointer (some ⟨bF, oF + a0, none⟩)) rfl (fun W' hW' => ?_) ?_)
                  · obtain ⟨i1, i2, i3, i4⟩ := HKS.out W' _ hW'
                    go_simp
                  simp only [Act.put, List.setIfInBounds_toArray, List.set_cons_succ, List.set_cons_zero]
                  refine no_implicit_lambda% (wpQuiet_val (.int .i64 (f0)) rfl (fun W' hW' => ?_) ?_)
                  · obtain ⟨i1, i2, i3, i4⟩ := HKS.out W' _ hW'
                    go_simp
                  simp only [Act.put, List.setIfInBounds_toArray, List.set_cons_succ, List.set_cons_zero]
                  refine no_implicit_lambda% (wpQuiet_move (.tmp 3) (.slice (some ⟨bF, oF, none⟩) N cF) rfl rfl (by kernel_rfl) ?_)
                  simp only [Act.put, List.setIfInBounds_toArray, List.set_cons_succ, List.set_cons_zero]
                  refine no_implicit_lambda% (wpQuiet_move (.tmp 5) (.int .i64 (i : Int)) rfl rfl (by kernel_rfl) ?_)
                  simp only [Act.put, List.setIfInBounds_toArray, List.set_cons_succ, List.set_cons_zero]
                  refine no_implicit_lambda% (wpQuiet_val (.int .i64 (a0 : Int)) rfl (fun W' hW' => ?_) ?_)
                  · obtain ⟨i1, i2, i3, i4⟩ := HKS.out W' _ hW'
                    go_simp
                  simp only [Act.put, List.setIfInBounds_toArray, List.set_cons_succ, List.set_cons_zero]
                  refine no_implicit_lambda% (wpQuiet_val (.int .i64 (a2 : Int)) rfl (fun W' hW' => ?_) ?_)
                  · obtain ⟨i1, i2, i3, i4⟩ := HKS.out W' _ hW'
                    go_simp
                  simp only [Act.put, List.setIfInBounds_toArray, List.set_cons_succ, List.set_cons_zero]
                  refine no_implicit_lambda% (wpQuiet_val (.pointer (some ⟨bF, oF + a2, none⟩)) rfl (fun W' hW' => ?_) ?_)
                  · obtain ⟨i1, i2, i3, i4⟩ := HKS.out W' _ hW'
                    go_simp
                  simp only [Act.put, List.setIfInBounds_toArray, List.set_cons_succ, List.set_cons_zero]
                  refine no_implicit_lambda% (wpQuiet_val (.int .i64 (f2)) rfl (fun W' hW' => ?_) ?_)
                  · obtain ⟨i1, i2, i3, i4⟩ := HKS.out W' _ hW'
                    go_simp
                  simp only [Act.put, List.setIfInBounds_toArray, List.set_cons_succ, List.set_cons_zero]
                  refine no_implicit_lambda% (wpQuiet_val (.bool false) rfl (fun W' hW' => ?_) ?_)
                  · obtain ⟨i1, i2, i3, i4⟩ := HKS.out W' _ hW'
                    go_simp
                  simp only [Act.put, List.setIfInBounds_toArray, List.set_cons_succ, List.set_cons_zero]
                  refine no_implicit_lambda% (wpQuiet_move (.tmp 27) (.bool false) rfl rfl (by kernel_rfl) ?_)
                  simp only [Act.put, List.setIfInBounds_toArray, List.set_cons_succ, List.set_cons_zero]
                  refine no_implicit_lambda% (wpQuietW_move (.tmp 3) (.slice (some ⟨bF, oF, none⟩) N cF) (by kernel_rfl) rfl (by kernel_rfl) ?_)
                  simp only [Act.put, List.setIfInBounds_toArray, List.set_cons_succ, List.set_cons_zero]
                  refine no_implicit_lambda% (wpQuietW_move (.tmp 5) (.int .i64 (i : Int)) (by kernel_rfl) rfl (by kernel_rfl) ?_)
                  simp only [Act.put, List.setIfInBounds_toArray, List.set_cons_succ, List.set_cons_zero]
                  refine no_implicit_lambda% (wpQuietW_val (.int .i64 (a0 : Int)) (by kernel_rfl) (fun W' hW' => ?_) ?_)
                  · obtain ⟨i1, i2, i3, i4⟩ := HKS.out W' _ hW'
                    go_simp
                  simp only [Act.put, List.setIfInBounds_toArray, List.set_cons_succ, List.set_cons_zero]
                  refine no_implicit_lambda% (wpQuietW_val (.int .i64 (a1 : Int)) (by kernel_rfl) (fun W' hW' => ?_) ?_)
                  · obtain ⟨i1, i2, i3, i4⟩ := HKS.out W' _ hW'
                    go_simp
                  simp only [Act.put, List.setIfInBounds_toArray, List.set_cons_succ, List.set_cons_zero]
                  refine no_implicit_lambda% (wpQuietW_val (.pointer (some ⟨bF, oF + a1, none⟩)) (by kernel_rfl) (fun W' hW' => ?_) ?_)
                  · obtain ⟨i1, i2, i3, i4⟩ := HKS.out W' _ hW'
                    go_simp
                  simp only [Act.put, List.setIfInBounds_toArray, List.set_cons_succ, List.set_cons_zero]
                  refine no_implicit_lambda% (wpQuietW_val (.int .i64 (f1)) (by kernel_rfl) (fun W' hW' => ?_) ?_)
                  · obtain ⟨i1, i2, i3, i4⟩ := HKS.out W' _ hW'
                    go_simp
                  simp only [Act.put, List.setIfInBounds_toArray, List.set_cons_succ, List.set_cons_zero]
                  refine no_implicit_lambda% (wpQuietW_move (.tmp 3) (.slice (some ⟨bF, oF, none⟩) N cF) (by kernel_rfl) rfl (by kernel_rfl) ?_)
                  simp only [Act.put, List.setIfInBounds_toArray, List.set_cons_succ, List.set_cons_zero]
                  refine no_implicit_lambda% (wpQuietW_move (.tmp 5) (.int .i64 (i : Int)) (by kernel_rfl) rfl (by kernel_rfl) ?_)
                  simp only [Act.put, List.setIfInBounds_toArray, List.set_cons_succ, List.set_cons_zero]
                  refine no_implicit_lambda% (wpQuietW_val (.int .i64 (a0 : Int)) (by kernel_rfl) (fun W' hW' => ?_) ?_)
                  · obtain ⟨i1, i2, i3, i4⟩ := HKS.out W' _ hW'
                    go_simp
                  simp only [Act.put, List.setIfInBounds_toArray, List.set_cons_succ, List.set_cons_zero]
                  refine no_implicit_lambda% (wpQuietW_val (.int .i64 (a3 : Int)) (by kernel_rfl) (fun W' hW' => ?_) ?_)
                  · obtain ⟨i1, i2, i3, i4⟩ := HKS.out W' _ hW'
                    go_simp
                  simp only [Act.put, List.setIfInBounds_toArray, List.set_cons_succ, List.set_cons_zero]
                  refine no_implicit_lambda% (wpQuietW_val (.pointer (some ⟨bF, oF + a3, none⟩)) (by kernel_rfl) (fun W' hW' => ?_) ?_)
                  · obtain ⟨i1, i2, i3, i4⟩ := HKS.out W' _ hW'
                    go_simp
                  simp only [Act.put, List.setIfInBounds_toArray, List.set_cons_succ, List.set_cons_zero]
                  refine no_implicit_lambda% (wpQuietW_val (.int .i64 (f3)) (by kernel_rfl) (fun W' hW' => ?_) ?_)
                  · obtain ⟨i1, i2, i3, i4⟩ := HKS.out W' _ hW'
                    go_simp
                  simp only [Act.put, List.setIfInBounds_toArray, List.set_cons_succ, List.set_cons_zero]
                  refine no_implicit_lambda% (wpQuietW_val (.bool false) (by kernel_rfl) (fun W' hW' => ?_) ?_)
                  · obtain ⟨i1, i2, i3, i4⟩ := HKS.out W' _ hW'
                    go_simp
                  simp only [Act.put, List.setIfInBounds_toArray, List.set_cons_succ, List.set_cons_zero]
                  refine no_implicit_lambda% (wpQuiet_val (.bool false) rfl (fun W' hW' => ?_) ?_)
                  · obtain ⟨i1, i2, i3, i4⟩ := HKS.out W' _ hW'
                    go_simp
                  simp only [Act.put, List.setIfInBounds_toArray, List.set_cons_succ, List.set_cons_zero]
                  refine no_implicit_lambda% (wpQuiet_move (.tmp 42) (.bool false) rfl rfl (by kernel_rfl) ?_)
                  simp only [Act.put, List.setIfInBounds_toArray, List.set_cons_succ, List.set_cons_zero]
                  refine no_implicit_lambda% (wpQuietW_move (.tmp 3) (.slice (some ⟨bF, oF, none⟩) N cF) (by kernel_rfl) rfl (by kernel_rfl) ?_)
                  simp only [Act.put, List.setIfInBounds_toArray, List.set_cons_succ, List.set_cons_zero]
                  refine no_implicit_lambda% (wpQuietW_move (.tmp 5) (.int .i64 (i : Int)) (by kernel_rfl) rfl (by kernel_rfl) ?_)
                  simp only [Act.put, List.setIfInBounds_toArray, List.set_cons_succ, List.set_cons_zero]
                  refine no_implicit_lambda% (wpQuietW_val (.int .i64 (a0 : Int)) (by kernel_rfl) (fun W' hW' => ?_) ?_)
                  · obtain ⟨i1, i2, i3, i4⟩ := HKS.out W' _ hW'
                    go_simp
                  simp only [Act.put, List.setIfInBounds_toArray, List.set_cons_succ, List.set_cons_zero]
                  refine no_implicit_lambda% (wpQuietW_val (.pointer (some ⟨bF, oF + a0, none⟩)) (by kernel_rfl) (fun W' hW' => ?_) ?_)
                  · obtain ⟨i1, i2, i3, i4⟩ := HKS.out W' _ hW'
                    go_simp
                  simp only [Act.put, List.setIfInBounds_toArray, List.set_cons_succ, List.set_cons_zero]
                  refine no_implicit_lambda% (wpQuietW_val (.int .i64 (f0)) (by kernel_rfl) (fun W' hW' => ?_) ?_)
                  · obtain ⟨i1, i2, i3, i4⟩ := HKS.out W' _ hW'
                    go_simp
                  simp only [Act.put, List.setIfInBounds_toArray, List.set_cons_succ, List.set_cons_zero]
                  refine no_implicit_lambda% (wpQuietW_move (.tmp 3) (.slice (some ⟨bF, oF, none⟩) N cF) (by kernel_rfl) rfl (by kernel_rfl) ?_)
                  simp only [Act.put, List.setIfInBounds_toArray, List.set_cons_succ, List.set_cons_zero]
                  refine no_implicit_lambda% (wpQuietW_move (.tmp 5) (.int .i64 (i : Int)) (by kernel_rfl) rfl (by kernel_rfl) ?_)
                  simp only [Act.put, List.setIfInBounds_toArray, List.set_cons_succ, List.set_cons_zero]
                  refine no_implicit_lambda% (wpQuietW_val (.int .i64 (a0 : Int)) (by kernel_rfl) (fun W' hW' => ?_) ?_)
                  · obtain ⟨i1, i2, i3, i4⟩ := HKS.out W' _ hW'
                    go_simp
                  simp only [Act.put, List.setIfInBounds_toArray, List.set_cons_succ, List.set_cons_zero]
                  refine no_implicit_lambda% (wpQuietW_val (.int .i64 (a1 : Int)) (by kernel_rfl) (fun W' hW' => ?_) ?_)
                  · obtain ⟨i1, i2, i3, i4⟩ := HKS.out W' _ hW'
                    go_simp
                  simp only [Act.put, List.setIfInBounds_toArray, List.set_cons_succ, List.set_cons_zero]
                  refine no_implicit_lambda% (wpQuietW_val (.pointer (some ⟨bF, oF + a1, none⟩)) (by kernel_rfl) (fun W' hW' => ?_) ?_)
                  · obtain ⟨i1, i2, i3, i4⟩ := HKS.out W' _ hW'
                    go_simp
                  simp only [Act.put, List.setIfInBounds_toArray, List.set_cons_succ, List.set_cons_zero]
                  refine no_implicit_lambda% (wpQuietW_val (.int .i64 (f1)) (by kernel_rfl) (fun W' hW' => ?_) ?_)
                  · obtain ⟨i1, i2, i3, i4⟩ := HKS.out W' _ hW'
                    go_simp
                  simp only [Act.put, List.setIfInBounds_toArray, List.set_cons_succ, List.set_cons_zero]
                  refine no_implicit_lambda% (wpQuietW_val (.bool false) (by kernel_rfl) (fun W' hW' => ?_) ?_)
                  · obtain ⟨i1, i2, i3, i4⟩ := HKS.out W' _ hW'
                    go_simp
                  simp only [Act.put, List.setIfInBounds_toArray, List.set_cons_succ, List.set_cons_zero]
                  refine no_implicit_lambda% (wpQuiet_val (.bool false) rfl (fun W' hW' => ?_) ?_)
                  · obtain ⟨i1, i2, i3, i4⟩ := HKS.out W' _ hW'
                    go_simp
                  simp only [Act.put, List.setIfInBounds_toArray, List.set_cons_succ, List.set_cons_zero]
                  refine no_implicit_lambda% (wpQuiet_move (.tmp 56) (.bool false) rfl rfl (by kernel_rfl) ?_)
                  simp only [Act.put, List.setIfInBounds_toArray, List.set_cons_succ, List.set_cons_zero]
                  refine no_implicit_lambda% (wpQuietW_move (.tmp 3) (.slice (some ⟨bF, oF, none⟩) N cF) (by kernel_rfl) rfl (by kernel_rfl) ?_)
                  simp only [Act.put, List.setIfInBounds_toArray, List.set_cons_succ, List.set_cons_zero]
                  refine no_implicit_lambda% (wpQuietW_move (.tmp 5) (.int .i64 (i : Int)) (by kernel_rfl) rfl (by kernel_rfl) ?_)
                  simp only [Act.put, List.setIfInBounds_toArray, List.set_cons_succ, List.set_cons_zero]
                  refine no_implicit_lambda% (wpQuietW_val (.int .i64 (a0 : Int)) (by kernel_rfl) (fun W' hW' => ?_) ?_)
                  · obtain ⟨i1, i2, i3, i4⟩ := HKS.out W' _ hW'
                    go_simp
                  simp only [Act.put, List.setIfInBounds_toArray, List.set_cons_succ, List.set_cons_zero]
                  refine no_implicit_lambda% (wpQuietW_val (.int .i64 (a1 : Int)) (by kernel_rfl) (fun W' hW' => ?_) ?_)
                  · obtain ⟨i1, i2, i3, i4⟩ := HKS.out W' _ hW'
                    go_simp
                  simp only [Act.put, List.setIfInBounds_toArray, List.set_cons_succ, List.set_cons_zero]
                  refine no_implicit_lambda% (wpQuietW_val (.pointer (some ⟨bF, oF + a1, none⟩)) (by kernel_rfl) (fun W' hW' => ?_) ?_)
                  · obtain ⟨i1, i2, i3, i4⟩ := HKS.out W' _ hW'
                    go_simp
                  simp only [Act.put, List.setIfInBounds_toArray, List.set_cons_succ, List.set_cons_zero]
                  refine no_implicit_lambda% (wpQuietW_val (.int .i64 (f1)) (by kernel_rfl) (fun W' hW' => ?_) ?_)
                  · obtain ⟨i1, i2, i3, i4⟩ := HKS.out W' _ hW'
                    go_simp
                  simp only [Act.put, List.setIfInBounds_toArray, List.set_cons_succ, List.set_cons_zero]
                  refine no_implicit_lambda% (wpQuietW_move (.tmp 3) (.slice (some ⟨bF, oF, none⟩) N cF) (by kernel_rfl) rfl (by kernel_rfl) ?_)
                  simp only [Act.put, List.setIfInBounds_toArray, List.set_cons_succ, List.set_cons_zero]
                  refine no_implicit_lambda% (wpQuietW_move (.tmp 5) (.int .i64 (i : Int)) (by kernel_rfl) rfl (by kernel_rfl) ?_)
                  simp only [Act.put, List.setIfInBounds_toArray, List.set_cons_succ, List.set_cons_zero]
                  refine no_implicit_lambda% (wpQuietW_val (.int .i64 (a0 : Int)) (by kernel_rfl) (fun W' hW' => ?_) ?_)
                  · obtain ⟨i1, i2, i3, i4⟩ := HKS.out W' _ hW'
                    go_simp
                  simp only [Act.put, List.setIfInBounds_toArray, List.set_cons_succ, List.set_cons_zero]
                  refine no_implicit_lambda% (wpQuietW_val (.int .i64 (a2 : Int)) (by kernel_rfl) (fun W' hW' => ?_) ?_)
                  · obtain ⟨i1, i2, i3, i4⟩ := HKS.out W' _ hW'
                    go_simp
                  simp only [Act.put, List.setIfInBounds_toArray, List.set_cons_succ, List.set_cons_zero]
                  refine no_implicit_lambda% (wpQuietW_val (.pointer (some ⟨bF, oF + a2, none⟩)) (by kernel_rfl) (fun W' hW' => ?_) ?_)
                  · obtain ⟨i1, i2, i3, i4⟩ := HKS.out W' _ hW'
                    go_simp
                  simp only [Act.put, List.setIfInBounds_toArray, List.set_cons_succ, List.set_cons_zero]
                  refine no_implicit_lambda% (wpQuietW_val (.int .i64 (f2)) (by kernel_rfl) (fun W' hW' => ?_) ?_)
                  · obtain ⟨i1, i2, i3, i4⟩ := HKS.out W' _ hW'
                    go_simp
                  simp only [Act.put, List.setIfInBounds_toArray, List.set_cons_succ, List.set_cons_zero]
                  refine no_implicit_lambda% (wpQuietW_val (.bool false) (by kernel_rfl) (fun W' hW' => ?_) ?_)
                  · obtain ⟨i1, i2, i3, i4⟩ := HKS.out W' _ hW'
                    go_simp
                  simp only [Act.put, List.setIfInBounds_toArray, List.set_cons_succ, List.set_cons_zero]
                  refine no_implicit_lambda% (wpQuiet_val (.bool false) rfl (fun W' hW' => ?_) ?_)
                  · obtain ⟨i1, i2, i3, i4⟩ := HKS.out W' _ hW'
                    go_simp
                  simp only [Act.put, List.setIfInBounds_toArray, List.set_cons_succ, List.set_cons_zero]
                  refine no_implicit_lambda% (wpQuiet_move (.tmp 71) (.bool false) rfl rfl (by kernel_rfl) ?_)
                  simp only [Act.put, List.setIfInBounds_toArray, List.set_cons_succ, List.set_cons_zero]
                  refine no_implicit_lambda% (wpQuietW_move (.tmp 3) (.slice (some ⟨bF, oF, none⟩) N cF) (by kernel_rfl) rfl (by kernel_rfl) ?_)
                  simp only [Act.put, List.setIfInBounds_toArray, List.set_cons_succ, List.set_cons_zero]
                  refine no_implicit_lambda% (wpQuietW_move (.tmp 5) (.int .i64 (i : Int)) (by kernel_rfl) rfl (by kernel_rfl) ?_)
                  simp only [Act.put, List.setIfInBounds_toArray, List.set_cons_succ, List.set_cons_zero]
                  refine no_implicit_lambda% (wpQuietW_val (.int .i64 (a0 : Int)) (by kernel_rfl) (fun W' hW' => ?_) ?_)
                  · obtain ⟨i1, i2, i3, i4⟩ := HKS.out W' _ hW'
                    go_simp
                  simp only [Act.put, List.setIfInBounds_toArray, List.set_cons_succ, List.set_cons_zero]
                  refine no_implicit_lambda% (wpQuietW_val (.int .i64 (a2 : Int)) (by kernel_rfl) (fun W' hW' => ?_) ?_)
                  · obtain ⟨i1, i2, i3, i4⟩ := HKS.out W' _ hW'
                    go_simp
                  simp only [Act.put, List.setIfInBounds_toArray, List.set_cons_succ, List.set_cons_zero]
                  refine no_implicit_lambda% (wpQuietW_val (.pointer (some ⟨bF, oF + a2, none⟩)) (by kernel_rfl) (fun W' hW' => ?_) ?_)
                  · obtain ⟨i1, i2, i3, i4⟩ := HKS.out W' _ hW'
                    go_simp
                  simp only [Act.put, List.setIfInBounds_toArray, List.set_cons_succ, List.set_cons_zero]
                  refine no_implicit_lambda% (wpQuietW_val (.int .i64 (f2)) (by kernel_rfl) (fun W' hW' => ?_) ?_)
                  · obtain ⟨i1, i2, i3, i4⟩ := HKS.out W' _ hW'
                    go_simp
                  simp only [Act.put, List.setIfInBounds_toArray, List.set_cons_succ, List.set_cons_zero]
                  refine no_implicit_lambda% (wpQuietW_move (.tmp 3) (.slice (some ⟨bF, oF, none⟩) N cF) (by kernel_rfl) rfl (by kernel_rfl) ?_)
                  simp only [Act.put, List.setIfInBounds_toArray, List.set_cons_succ, List.set_cons_zero]
                  refine no_implicit_lambda% (wpQuietW_move (.tmp 5) (.int .i64 (i : Int)) (by kernel_rfl) rfl (by kernel_rfl) ?_)
                  simp only [Act.put, List.setIfInBounds_toArray, List.set_cons_succ, List.set_cons_zero]
                  refine no_implicit_lambda% (wpQuietW_val (.int .i64 (a0 : Int)) (by kernel_rfl) (fun W' hW' => ?_) ?_)
                  · obtain ⟨i1, i2, i3, i4⟩ := HKS.out W' _ hW'
                    go_simp
                  simp only [Act.put, List.setIfInBounds_toArray, List.set_cons_succ, List.set_cons_zero]
                  refine no_implicit_lambda% (wpQuietW_val (.int .i64 (a3 : Int)) (by kernel_rfl) (fun W' hW' => ?_) ?_)
                  · obtain ⟨i1, i2, i3, i4⟩ := HKS.out W' _ hW'
                    go_simp
                  simp only [Act.put, List.setIfInBounds_toArray, List.set_cons_succ, List.set_cons_zero]
                  refine no_implicit_lambda% (wpQuietW_val (.pointer (some ⟨bF, oF + a3, none⟩)) (by kernel_rfl) (fun W' hW' => ?_) ?_)
                  · obtain ⟨i1, i2, i3, i4⟩ := HKS.out W' _ hW'
                    go_simp
                  simp only [Act.put, List.setIfInBounds_toArray, List.set_cons_succ, List.set_cons_zero]
                  refine no_implicit_lambda% (wpQuietW_val (.int .i64 (f3)) (by kernel_rfl) (fun W' hW' => ?_) ?_)
                  · obtain ⟨i1, i2, i3, i4⟩ := HKS.out W' _ hW'
                    go_simp
                  simp only [Act.put, List.setIfInBounds_toArray, List.set_cons_succ, List.set_cons_zero]
                  refine no_implicit_lambda% (wpQuietW_val (.bool false) (by kernel_rfl) (fun W' hW' => ?_) ?_)
                  · obtain ⟨i1, i2, i3, i4⟩ := HKS.out W' _ hW'
                    go_simp
                  simp only [Act.put, List.setIfInBounds_toArray, List.set_cons_succ, List.set_cons_zero]
                  refine no_implicit_lambda% (wpQuiet_val (.bool false) rfl (fun W' hW' => ?_) ?_)
                  · obtain ⟨i1, i2, i3, i4⟩ := HKS.out W' _ hW'
                    go_simp
                  simp only [Act.put, List.setIfInBounds_toArray, List.set_cons_succ, List.set_cons_zero]
                  refine no_implicit_lambda% (wpQuiet_move (.tmp 86) (.bool false) rfl rfl (by kernel_rfl) ?_)
                  simp only [Act.put, List.setIfInBounds_toArray, List.set_cons_succ, List.set_cons_zero]
                  refine no_implicit_lambda% (wpQuietW_move (.tmp 3) (.slice (some ⟨bF, oF, none⟩) N cF) (by kernel_rfl) rfl (by kernel_rfl) ?_)
                  simp only [Act.put, List.setIfInBounds_toArray, List.set_cons_succ, List.set_cons_zero]
                  refine no_implicit_lambda% (wpQuietW_move (.tmp 5) (.int .i64 (i : Int)) (by kernel_rfl) rfl (by kernel_rfl) ?_)
                  simp only [Act.put, List.setIfInBounds_toArray, List.set_cons_succ, List.set_cons_zero]
                  refine no_implicit_lambda% (wpQuietW_val (.int .i64 (a0 : Int)) (by kernel_rfl) (fun W' hW' => ?_) ?_)
                  · obtain ⟨i1, i2, i3, i4⟩ := HKS.out W' _ hW'
                    go_simp
                  simp only [Act.put, List.setIfInBounds_toArray, List.set_cons_succ, List.set_cons_zero]
                  refine no_implicit_lambda% (wpQuietW_val (.int .i64 (a3 : Int)) (by kernel_rfl) (fun W' hW' => ?_) ?_)
                  · obtain ⟨i1, i2, i3, i4⟩ := HKS.out W' _ hW'
                    go_simp
                  simp only [Act.put, List.setIfInBounds_toArray, List.set_cons_succ, List.set_cons_zero]
                  refine no_implicit_lambda% (wpQuietW_val (.pointer (some ⟨bF, oF + a3, none⟩)) (by kernel_rfl) (fun W' hW' => ?_) ?_)
                  · obtain ⟨i1, i2, i3, i4⟩ := HKS.out W' _ hW'
                    go_simp
                  simp only [Act.put, List.setIfInBounds_toArray, List.set_cons_succ, List.set_cons_zero]
                  refine no_implicit_lambda% (wpQuietW_val (.int .i64 (f3)) (by kernel_rfl) (fun W' hW' => ?_) ?_)
                  · obtain ⟨i1, i2, i3, i4⟩ := HKS.out W' _ hW'
                    go_simp
                  simp only [Act.put, List.setIfInBounds_toArray, List.set_cons_succ, List.set_cons_zero]
                  refine no_implicit_lambda% (wpQuietW_move (.tmp 3) (.slice (some ⟨bF, oF, none⟩) N cF) (by kernel_rfl) rfl (by kernel_rfl) ?_)
                  simp only [Act.put, List.setIfInBounds_toArray, List.set_cons_succ, List.set_cons_zero]
                  refine no_implicit_lambda% (wpQuietW_move (.tmp 5) (.int .i64 (i : Int)) (by kernel_rfl) rfl (by kernel_rfl) ?_)
                  simp only [Act.put, List.setIfInBounds_toArray, List.set_cons_succ, List.set_cons_zero]
                  refine no_implicit_lambda% (wpQuietW_val (.int .i64 (a0 : Int)) (by kernel_rfl) (fun W' hW' => ?_) ?_)
                  · obtain ⟨i1, i2, i3, i4⟩ := HKS.out W' _ hW'
                    go_simp
                  simp only [Act.put, List.setIfInBounds_toArray, List.set_cons_succ, List.set_cons_zero]
                  refine no_implicit_lambda% (wpQuietW_val (.pointer (some ⟨bF, oF + a0, none⟩)) (by kernel_rfl) (fun W' hW' => ?_) ?_)
                  · obtain ⟨i1, i2, i3, i4⟩ := HKS.out W' _ hW'
                    go_simp
                  simp only [Act.put, List.setIfInBounds_toArray, List.set_cons_succ, List.set_cons_zero]
                  refine no_implicit_lambda% (wpQuietW_val (.int .i64 (f0)) (by kernel_rfl) (fun W' hW' => ?_) ?_)
                  · obtain ⟨i1, i2, i3, i4⟩ := HKS.out W' _ hW'
                    go_simp
                  simp only [Act.put, List.setIfInBounds_toArray, List.set_cons_succ, List.set_cons_zero]
                  refine no_implicit_lambda% (wpQuietW_val (.bool true) (by kernel_rfl) (fun W' hW' => ?_) ?_)
                  · obtain ⟨i1, i2, i3, i4⟩ := HKS.out W' _ hW'
                    go_simp
                  simp only [Act.put, List.setIfInBounds_toArray, List.set_cons_succ, List.set_cons_zero]
                  refine no_implicit_lambda% (wpQuiet_val (.bool true) rfl (fun W' hW' => ?_) ?_)
                  · obtain ⟨i1, i2, i3, i4⟩ := HKS.out W' _ hW'
                    go_simp
                  simp only [Act.put, List.setIfInBounds_toArray, List.set_cons_succ, List.set_cons_zero]
                  refine no_implicit_lambda% (wpQuiet_end ?_)
                  intro w5 hw5
                  have Hx := Lib.hid hw5
                  clear hw5 v0 v1 v2 v3
                  have Ha := Lib.hid (Hx.out.call ((Below.refl _ _).alloc (Nat.le_refl _) (.cells #[.int .i64 (i : Int)] 3)))
                  have Hc0 : Hid ((w5.alloc (.cells #[.int .i64 (i : Int)] 3)).cell? ⟨w5.heap.size, 0, none⟩ = some (.int .i64 (i : Int))) := Lib.hid ((Row.new w5 #[.int .i64 (i : Int)] 3).cell 0)
                  have Hl1 := Lib.hid Ha.out.below.size
                  have Hnt : Hid ((ints (nats (rnugTo F i))).length = (rnugTo F i).length) := Lib.hid (by rw [ints_length, nats_length])
                  go_wp2_with (with_reducible refine wpList_append_one rfl (.tmp 101) (.tmp 103) 22 rfl w.heap.size 3 i0 _ 8 Try.underlying22 hi0 hz0 hz1 hz2 rfl A (rnugTo F i).length C (ints (nats (rnugTo F i))) rfl Hnt.out (Ha.out.sl (k := 1) rfl) ⟨w5.heap.size, 0, none⟩ 1 (.int .i64 (i : Int)) rfl Hc0.out rfl (by omega) (by omega) Hl1.out ?_; intro A7 e7 w7 hO7 hT7 hA7; have HO7 := Lib.hid hO7; have HT7 := Lib.hid hT7; have HA7 := Lib.hid hA7; clear hO7 hT7 hA7)
                  have H7 := Lib.hid (Ha.out.grow (k := 1) rfl HO7.out HT7.out HA7.out)
                  go_roundg (n - (i + 1))
                  case measure => omega
                  case rel =>
                    refine ⟨i + 1, A7, e7, by omega, rfl, by go_num, by rw [HYes.out, List.length_append]; rfl, ?_⟩
                    rw [HYes.out, ← nats_snoc, ← ints_snoc]
                    exact H7.out
              · have HYes := Lib.hid (HYes.out (by simp [t0, t1, t2, t3, t4]))
                refine wp_region_class (fun W => HH w W [(w.heap.size, rowO 24 [.slice aS n cS, .slice aM N cM, .int .i64 L])] [⟨some ⟨bF, oF, none⟩, cF, 3, ints F⟩, ⟨A, C, 3, ints (nats (rnugTo F i))⟩]) (by kernel_rfl) (by kernel_rfl) Hh.out.drew ?_
                refine no_implicit_lambda% (wpQuiet_move (.tmp 3) (.slice (some ⟨bF, oF, none⟩) N cF) rfl rfl (by kernel_rfl) ?_)
                simp only [Act.put, List.setIfInBounds_toArray, List.set_cons_succ, List.set_cons_zero]
                refine no_implicit_lambda% (wpQuiet_move (.tmp 5) (.int .i64 (i : Int)) rfl rfl (by kernel_rfl) ?_)
                simp only [Act.put, List.setIfInBounds_toArray, List.set_cons_succ, List.set_cons_zero]
                refine no_implicit_lambda% (wpQuiet_val (.int .i64 (a0 : Int)) rfl (fun W' hW' => ?_) ?_)
                · obtain ⟨i1, i2, i3, i4⟩ := HKS.out W' _ hW'
                  go_simp
                simp only [Act.put, List.setIfInBounds_toArray, List.set_cons_succ, List.set_cons_zero]
                refine no_implicit_lambda% (wpQuiet_val (.pointer (some ⟨bF, oF + a0, none⟩)) rfl (fun W' hW' => ?_) ?_)
                · obtain ⟨i1, i2, i3, i4⟩ := HKS.out W' _ hW'
                  go_simp
                simp only [Act.put, List.setIfInBounds_toArray, List.set_cons_succ, List.set_cons_zero]
                refine no_implicit_lambda% (wpQuiet_val (.int .i64 (f0)) rfl (fun W' hW' => ?_) ?_)
                · obtain ⟨i1, i2, i3, i4⟩ := HKS.out W' _ hW'
                  go_simp
                simp only [Act.put, List.setIfInBounds_toArray, List.set_cons_succ, List.set_cons_zero]
                refine no_implicit_lambda% (wpQuiet_move (.tmp 3) (.slice (some ⟨bF, oF, none⟩) N cF) rfl rfl (by kernel_rfl) ?_)
                simp only [Act.put, List.setIfInBounds_toArray, List.set_cons_succ, List.set_cons_zero]
                refine no_implicit_lambda% (wpQuiet_move (.tmp 5) (.int .i64 (i : Int)) rfl rfl (by kernel_rfl) ?_)
                simp only [Act.put, List.setIfInBounds_toArray, List.set_cons_succ, List.set_cons_zero]
                refine no_implicit_lambda% (wpQuiet_val (.int .i64 (a0 : Int)) rfl (fun W' hW' => ?_) ?_)
                · obtain ⟨i1, i2, i3, i4⟩ := HKS.out W' _ hW'
                  go_simp
                simp only [Act.put, List.setIfInBounds_toArray, List.set_cons_succ, List.set_cons_zero]
                refine no_implicit_lambda% (wpQuiet_val (.int .i64 (a2 : Int)) rfl (fun W' hW' => ?_) ?_)
                · obtain ⟨i1, i2, i3, i4⟩ := HKS.out W' _ hW'
                  go_simp
                simp only [Act.put, List.setIfInBounds_toArray, List.set_cons_succ, List.set_cons_zero]
                refine no_implicit_lambda% (wpQuiet_val (.pointer (some ⟨bF, oF + a2, none⟩)) rfl (fun W' hW' => ?_) ?_)
                · obtain ⟨i1, i2, i3, i4⟩ := HKS.out W' _ hW'
                  go_simp
                simp only [Act.put, List.setIfInBounds_toArray, List.set_cons_succ, List.set_cons_zero]
                refine no_implicit_lambda% (wpQuiet_val (.int .i64 (f2)) rfl (fun W' hW' => ?_) ?_)
                · obtain ⟨i1, i2, i3, i4⟩ := HKS.out W' _ hW'
                  go_simp
                simp only [Act.put, List.setIfInBounds_toArray, List.set_cons_succ, List.set_cons_zero]
                refine no_implicit_lambda% (wpQuiet_val (.bool false) rfl (fun W' hW' => ?_) ?_)
                · obtain ⟨i1, i2, i3, i4⟩ := HKS.out W' _ hW'
                  go_simp
                simp only [Act.put, List.setIfInBounds_toArray, List.set_cons_succ, List.set_cons_zero]
                refine no_implicit_lambda% (wpQuiet_move (.tmp 27) (.bool false) rfl rfl (by kernel_rfl) ?_)
                simp only [Act.put, List.setIfInBounds_toArray, List.set_cons_succ, List.set_cons_zero]
                refine no_implicit_lambda% (wpQuietW_move (.tmp 3) (.slice (some ⟨bF, oF, none⟩) N cF) (by kernel_rfl) rfl (by kernel_rfl) ?_)
                simp only [Act.put, List.setIfInBounds_toArray, List.set_cons_succ, List.set_cons_zero]
                refine no_implicit_lambda% (wpQuietW_move (.tmp 5) (.int .i64 (i : Int)) (by kernel_rfl) rfl (by kernel_rfl) ?_)
                simp only [Act.put, List.setIfInBounds_toArray, List.set_cons_succ, List.set_cons_zero]
                refine no_implicit_lambda% (wpQuietW_val (.int .i64 (a0 : Int)) (by kernel_rfl) (fun W' hW' => ?_) ?_)
                · obtain ⟨i1, i2, i3, i4⟩ := HKS.out W' _ hW'
                  go_simp
                simp only [Act.put, List.setIfInBounds_toArray, List.set_cons_succ, List.set_cons_zero]
                refine no_implicit_lambda% (wpQuietW_val (.int .i64 (a1 : Int)) (by kernel_rfl) (fun W' hW' => ?_) ?_)
                · obtain ⟨i1, i2, i3, i4⟩ := HKS.out W' _ hW'
                  go_simp
                simp only [Act.put, List.setIfInBounds_toArray, List.set_cons_succ, List.set_cons_zero]
                refine no_implicit_lambda% (wpQuietW_val (.pointer (some ⟨bF, oF + a1, none⟩)) (by kernel_rfl) (fun W' hW' => ?_) ?_)
                · obtain ⟨i1, i2, i3, i4⟩ := HKS.out W' _ hW'
                  go_simp
                simp only [Act.put, List.setIfInBounds_toArray, List.set_cons_succ, List.set_cons_zero]
                refine no_implicit_lambda% (wpQuietW_val (.int .i64 (f1)) (by kernel_rfl) (fun W' hW' => ?_) ?_)
                · obtain ⟨i1, i2, i3, i4⟩ := HKS.out W' _ hW'
                  go_simp
                simp only [Act.put, List.setIfInBounds_toArray, List.set_cons_succ, List.set_cons_zero]
                refine no_implicit_lambda% (wpQuietW_move (.tmp 3) (.slice (some ⟨bF, oF, none⟩) N cF) (by kernel_rfl) rfl (by kernel_rfl) ?_)
                simp only [Act.put, List.setIfInBounds_toArray, List.set_cons_succ, List.set_cons_zero]
                refine no_implicit_lambda% (wpQuietW_move (.tmp 5) (.int .i64 (i : Int)) (by kernel_rfl) rfl (by kernel_rfl) ?_)
                simp only [Act.put, List.setIfInBounds_toArray, List.set_cons_succ, List.set_cons_zero]
                refine no_implicit_lambda% (wpQuietW_val (.int .i64 (a0 : Int)) (by kernel_rfl) (fun W' hW' => ?_) ?_)
                · obtain ⟨i1, i2, i3, i4⟩ := HKS.out W' _ hW'
                  go_simp
                simp only [Act.put, List.setIfInBounds_toArray, List.set_cons_succ, List.set_cons_zero]
                refine no_implicit_lambda% (wpQuietW_val (.int .i64 (a3 : Int)) (by kernel_rfl) (fun W' hW' => ?_) ?_)
                · obtain ⟨i1, i2, i3, i4⟩ := HKS.out W' _ hW'
                  go_simp
                simp only [Act.put, List.setIfInBounds_toArray, List.set_cons_succ, List.set_cons_zero]
                refine no_implicit_lambda% (wpQuietW_val (.pointer (some ⟨bF, oF + a3, none⟩)) (by kernel_rfl) (fun W' hW' => ?_) ?_)
                · obtain ⟨i1, i2, i3, i4⟩ := HKS.out W' _ hW'
                  go_simp
                simp only [Act.put, List.setIfInBounds_toArray, List.set_cons_succ, List.set_cons_zero]
                refine no_implicit_lambda% (wpQuietW_val (.int .i64 (f3)) (by kernel_rfl) (fun W' hW' => ?_) ?_)
                · obtain ⟨i1, i2, i3, i4⟩ := HKS.out W' _ hW'
                  go_simp
                simp only [Act.put, List.setIfInBounds_toArray, List.set_cons_succ, List.set_cons_zero]
                refine no_implicit_lambda% (wpQuietW_val (.bool false) (by kernel_rfl) (fun W' hW' => ?_) ?_)
                · obtain ⟨i1, i2, i3, i4⟩ := HKS.out W' _ hW'
                  go_simp
                simp only [Act.put, List.setIfInBounds_toArray, List.set_cons_succ, List.set_cons_zero]
                refine no_implicit_lambda% (wpQuiet_val (.bool false) rfl (fun W' hW' => ?_) ?_)
                · obtain ⟨i1, i2, i3, i4⟩ := HKS.out W' _ hW'
                  go_simp
                simp only [Act.put, List.setIfInBounds_toArray, List.set_cons_succ, List.set_cons_zero]
                refine no_implicit_lambda% (wpQuiet_move (.tmp 42) (.bool false) rfl rfl (by kernel_rfl) ?_)
                simp only [Act.put, List.setIfInBounds_toArray, List.set_cons_succ, List.set_cons_zero]
                refine no_implicit_lambda% (wpQuietW_move (.tmp 3) (.slice (some ⟨bF, oF, none⟩) N cF) (by kernel_rfl) rfl (by kernel_rfl) ?_)
                simp only [Act.put, List.setIfInBounds_toArray, List.set_cons_succ, List.set_cons_zero]
                refine no_implicit_lambda% (wpQuietW_move (.tmp 5) (.int .i64 (i : Int)) (by kernel_rfl) rfl (by kernel_rfl) ?_)
                simp only [Act.put, List.setIfInBounds_toArray, List.set_cons_succ, List.set_cons_zero]
                refine no_implicit_lambda% (wpQuietW_val (.int .i64 (a0 : Int)) (by kernel_rfl) (fun W' hW' => ?_) ?_)
                · obtain ⟨i1, i2, i3, i4⟩ := HKS.out W' _ hW'
                  go_simp
                simp only [Act.put, List.setIfInBounds_toArray, List.set_cons_succ, List.set_cons_zero]
                refine no_implicit_lambda% (wpQuietW_val (.pointer (some ⟨bF, oF + a0, none⟩)) (by kernel_rfl) (fun W' hW' => ?_) ?_)
                · obtain ⟨i1, i2, i3, i4⟩ := HKS.out W' _ hW'
                  go_simp
                simp only [Act.put, List.setIfInBounds_toArray, List.set_cons_succ, List.set_cons_zero]
                refine no_implicit_lambda% (wpQuietW_val (.int .i64 (f0)) (by kernel_rfl) (fun W' hW' => ?_) ?_)
                · obtain ⟨i1, i2, i3, i4⟩ := HKS.out W' _ hW'
                  go_simp
                simp only [Act.put, List.setIfInBounds_toArray, List.set_cons_succ, List.set_cons_zero]
                refine no_implicit_lambda% (wpQuietW_move (.tmp 3) (.slice (some ⟨bF, oF, none⟩) N cF) (by kernel_rfl) rfl (by kernel_rfl) ?_)
                simp only [Act.put, List.setIfInBounds_toArray, List.set_cons_succ, List.set_cons_zero]
                refine no_implicit_lambda% (wpQuietW_move (.tmp 5) (.int .i64 (i : Int)) (by kernel_rfl) rfl (by kernel_rfl) ?_)
                simp only [Act.put, List.setIfInBounds_toArray, List.set_cons_succ, List.set_cons_zero]
                refine no_implicit_lambda% (wpQuietW_val (.int .i64 (a0 : Int)) (by kernel_rfl) (fun W' hW' => ?_) ?_)
                · obtain ⟨i1, i2, i3, i4⟩ := HKS.out W' _ hW'
                  go_simp
                simp only [Act.put, List.setIfInBounds_toArray, List.set_cons_succ, List.set_cons_zero]
                refine no_implicit_lambda% (wpQuietW_val (.int .i64 (a1 : Int)) (by kernel_rfl) (fun W' hW' => ?_) ?_)
                · obtain ⟨i1, i2, i3, i4⟩ := HKS.out W' _ hW'
                  go_simp
                simp only [Act.put, List.setIfInBounds_toArray, List.set_cons_succ, List.set_cons_zero]
                refine no_implicit_lambda% (wpQuietW_val (.pointer (some ⟨bF, oF + a1, none⟩)) (by kernel_rfl) (fun W' hW' => ?_) ?_)
                · obtain ⟨i1, i2, i3, i4⟩ := HKS.out W' _ hW'
                  go_simp
                simp only [Act.put, List.setIfInBounds_toArray, List.set_cons_succ, List.set_cons_zero]
                refine no_implicit_lambda% (wpQuietW_val (.int .i64 (f1)) (by kernel_rfl) (fun W' hW' => ?_) ?_)
                · obtain ⟨i1, i2, i3, i4⟩ := HKS.out W' _ hW'
                  go_simp
                simp only [Act.put, List.setIfInBounds_toArray, List.set_cons_succ, List.set_cons_zero]
                refine no_implicit_lambda% (wpQuietW_val (.bool false) (by kernel_rfl) (fun W' hW' => ?_) ?_)
                · obtain ⟨i1, i2, i3, i4⟩ := HKS.out W' _ hW'
                  go_simp
                simp only [Act.put, List.setIfInBounds_toArray, List.set_cons_succ, List.set_cons_zero]
                refine no_implicit_lambda% (wpQuiet_val (.bool false) rfl (fun W' hW' => ?_) ?_)
                · obtain ⟨i1, i2, i3, i4⟩ := HKS.out W' _ hW'
                  go_simp
                simp only [Act.put, List.setIfInBounds_toArray, List.set_cons_succ, List.set_cons_zero]
                refine no_implicit_lambda% (wpQuiet_move (.tmp 56) (.bool false) rfl rfl (by kernel_rfl) ?_)
                simp only [Act.put, List.setIfInBounds_toArray, List.set_cons_succ, List.set_cons_zero]
                refine no_implicit_lambda% (wpQuietW_move (.tmp 3) (.slice (some ⟨bF, oF, none⟩) N cF) (by kernel_rfl) rfl (by kernel_rfl) ?_)
                simp only [Act.put, List.setIfInBounds_toArray, List.set_cons_succ, List.set_cons_zero]
                refine no_implicit_lambda% (wpQuietW_move (.tmp 5) (.int .i64 (i : Int)) (by kernel_rfl) rfl (by kernel_rfl) ?_)
                simp only [Act.put, List.setIfInBounds_toArray, List.set_cons_succ, List.set_cons_zero]
                refine no_implicit_lambda% (wpQuietW_val (.int .i64 (a0 : Int)) (by kernel_rfl) (fun W' hW' => ?_) ?_)
                · obtain ⟨i1, i2, i3, i4⟩ := HKS.out W' _ hW'
                  go_simp
                simp only [Act.put, List.setIfInBounds_toArray, List.set_cons_succ, List.set_cons_zero]
                refine no_implicit_lambda% (wpQuietW_val (.int .i64 (a1 : Int)) (by kernel_rfl) (fun W' hW' => ?_) ?_)
                · obtain ⟨i1, i2, i3, i4⟩ := HKS.out W' _ hW'
                  go_simp
                simp only [Act.put, List.setIfInBounds_toArray, List.set_cons_succ, List.set_cons_zero]
                refine no_implicit_lambda% (wpQuietW_val (.pointer (some ⟨bF, oF + a1, none⟩)) (by kernel_rfl) (fun W' hW' => ?_) ?_)
                · obtain ⟨i1, i2, i3, i4⟩ := HKS.out W' _ hW'
                  go_simp
                simp only [Act.put, List.setIfInBounds_toArray, List.set_cons_succ, List.set_cons_zero]
                refine no_implicit_lambda% (wpQuietW_val (.int .i64 (f1)) (by kernel_rfl) (fun W' hW' => ?_) ?_)
                · obtain ⟨i1, i2, i3, i4⟩ := HKS.out W' _ hW'
                  go_simp
                simp only [Act.put, List.setIfInBounds_toArray, List.set_cons_succ, List.set_cons_zero]
                refine no_implicit_lambda% (wpQuietW_move (.tmp 3) (.slice (some ⟨bF, oF, none⟩) N cF) (by kernel_rfl) rfl (by kernel_rfl) ?_)
                simp only [Act.put, List.setIfInBounds_toArray, List.set_cons_succ, List.set_cons_zero]
                refine no_implicit_lambda% (wpQuietW_move (.tmp 5) (.int .i64 (i : Int)) (by kernel_rfl) rfl (by kernel_rfl) ?_)
                simp only [Act.put, List.setIfInBounds_toArray, List.set_cons_succ, List.set_cons_zero]
                refine no_implicit_lambda% (wpQuietW_val (.int .i64 (a0 : Int)) (by kernel_rfl) (fun W' hW' => ?_) ?_)
                · obtain ⟨i1, i2, i3, i4⟩ := HKS.out W' _ hW'
                  go_simp
                simp only [Act.put, List.setIfInBounds_toArray, List.set_cons_succ, List.set_cons_zero]
                refine no_implicit_lambda% (wpQuietW_val (.int .i64 (a2 : Int)) (by kernel_rfl) (fun W' hW' => ?_) ?_)
                · obtain ⟨i1, i2, i3, i4⟩ := HKS.out W' _ hW'
                  go_simp
                simp only [Act.put, List.setIfInBounds_toArray, List.set_cons_succ, List.set_cons_zero]
                refine no_implicit_lambda% (wpQuietW_val (.pointer (some ⟨bF, oF + a2, none⟩)) (by kernel_rfl) (fun W' hW' => ?_) ?_)
                · obtain ⟨i1, i2, i3, i4⟩ := HKS.out W' _ hW'
                  go_simp
                simp only [Act.put, List.setIfInBounds_toArray, List.set_cons_succ, List.set_cons_zero]
                refine no_implicit_lambda% (wpQuietW_val (.int .i64 (f2)) (by kernel_rfl) (fun W' hW' => ?_) ?_)
                · obtain ⟨i1, i2, i3, i4⟩ := HKS.out W' _ hW'
                  go_simp
                simp only [Act.put, List.setIfInBounds_toArray, List.set_cons_succ, List.set_cons_zero]
                refine no_implicit_lambda% (wpQuietW_val (.bool false) (by kernel_rfl) (fun W' hW' => ?_) ?_)
                · obtain ⟨i1, i2, i3, i4⟩ := HKS.out W' _ hW'
                  go_simp
                simp only [Act.put, List.setIfInBounds_toArray, List.set_cons_succ, List.set_cons_zero]
                refine no_implicit_lambda% (wpQuiet_val (.bool false) rfl (fun W' hW' => ?_) ?_)
                · obtain ⟨i1, i2, i3, i4⟩ := HKS.out W' _ hW'
                  go_simp
                simp only [Act.put, List.setIfInBounds_toArray, List.set_cons_succ, List.set_cons_zero]
                refine no_implicit_lambda% (wpQuiet_move (.tmp 71) (.bool false) rfl rfl (by kernel_rfl) ?_)
                simp only [Act.put, List.setIfInBounds_toArray, List.set_cons_succ, List.set_cons_zero]
                refine no_implicit_lambda% (wpQuietW_move (.tmp 3) (.slice (some ⟨bF, oF, none⟩) N cF) (by kernel_rfl) rfl (by kernel_rfl) ?_)
                simp only [Act.put, List.setIfInBounds_toArray, List.set_cons_succ, List.set_cons_zero]
                refine no_implicit_lambda% (wpQuietW_move (.tmp 5) (.int .i64 (i : Int)) (by kernel_rfl) rfl (by kernel_rfl) ?_)
                simp only [Act.put, List.setIfInBounds_toArray, List.set_cons_succ, List.set_cons_zero]
                refine no_implicit_lambda% (wpQuietW_val (.int .i64 (a0 : Int)) (by kernel_rfl) (fun W' hW' => ?_) ?_)
                · obtain ⟨i1, i2, i3, i4⟩ := HKS.out W' _ hW'
                  go_simp
                simp only [Act.put, List.setIfInBounds_toArray, List.set_cons_succ, List.set_cons_zero]
                refine no_implicit_lambda% (wpQuietW_val (.int .i64 (a2 : Int)) (by kernel_rfl) (fun W' hW' => ?_) ?_)
                · obtain ⟨i1, i2, i3, i4⟩ := HKS.out W' _ hW'
                  go_simp
                simp only [Act.put, List.setIfInBounds_toArray, List.set_cons_succ, List.set_cons_zero]
                refine no_implicit_lambda% (wpQuietW_val (.pointer (some ⟨bF, oF + a2, none⟩)) (by kernel_rfl) (fun W' hW' => ?_) ?_)
                · obtain ⟨i1, i2, i3, i4⟩ := HKS.out W' _ hW'
                  go_simp
                simp only [Act.put, List.setIfInBounds_toArray, List.set_cons_succ, List.set_cons_zero]
                refine no_implicit_lambda% (wpQuietW_val (.int .i64 (f2)) (by kernel_rfl) (fun W' hW' => ?_) ?_)
                · obtain ⟨i1, i2, i3, i4⟩ := HKS.out W' _ hW'
                  go_simp
                simp only [Act.put, List.setIfInBounds_toArray, List.set_cons_succ, List.set_cons_zero]
                refine no_implicit_lambda% (wpQuietW_move (.tmp 3) (.slice (some ⟨bF, oF, none⟩) N cF) (by kernel_rfl) rfl (by kernel_rfl) ?_)
                simp only [Act.put, List.setIfInBounds_toArray, List.set_cons_succ, List.set_cons_zero]
                refine no_implicit_lambda% (wpQuietW_move (.tmp 5) (.int .i64 (i : Int)) (by kernel_rfl) rfl (by kernel_rfl) ?_)
                simp only [Act.put, List.setIfInBounds_toArray, List.set_cons_succ, List.set_cons_zero]
                refine no_implicit_lambda% (wpQuietW_val (.int .i64 (a0 : Int)) (by kernel_rfl) (fun W' hW' => ?_) ?_)
                · obtain ⟨i1, i2, i3, i4⟩ := HKS.out W' _ hW'
                  go_simp
                simp only [Act.put, List.setIfInBounds_toArray, List.set_cons_succ, List.set_cons_zero]
                refine no_implicit_lambda% (wpQuietW_val (.int .i64 (a3 : Int)) (by kernel_rfl) (fun W' hW' => ?_) ?_)
                · obtain ⟨i1, i2, i3, i4⟩ := HKS.out W' _ hW'
                  go_simp
                simp only [Act.put, List.setIfInBounds_toArray, List.set_cons_succ, List.set_cons_zero]
                refine no_implicit_lambda% (wpQuietW_val (.pointer (some ⟨bF, oF + a3, none⟩)) (by kernel_rfl) (fun W' hW' => ?_) ?_)
                · obtain ⟨i1, i2, i3, i4⟩ := HKS.out W' _ hW'
                  go_simp
                simp only [Act.put, List.setIfInBounds_toArray, List.set_cons_succ, List.set_cons_zero]
                refine no_implicit_lambda% (wpQuietW_val (.int .i64 (f3)) (by kernel_rfl) (fun W' hW' => ?_) ?_)
                · obtain ⟨i1, i2, i3, i4⟩ := HKS.out W' _ hW'
                  go_simp
                simp only [Act.put, List.setIfInBounds_toArray, List.set_cons_succ, List.set_cons_zero]
                refine no_implicit_lambda% (wpQuietW_val (.bool true) (by kernel_rfl) (fun W' hW' => ?_) ?_)
                · obtain ⟨i1, i2, i3, i4⟩ := HKS.out W' _ hW'
                  go_simp
                simp only [Act.put, List.setIfInBounds_toArray, List.set_cons_succ, List.set_cons_zero]
                refine no_implicit_lambda% (wpQuiet_val (.bool true) rfl (fun W' hW' => ?_) ?_)
                · obtain ⟨i1, i2, i3, i4⟩ := HKS.out W' _ hW'
                  go_simp
                simp only [Act.put, List.setIfInBounds_toArray, List.set_cons_succ, List.set_cons_zero]
                refine no_implicit_lambda% (wpQuiet_move (.tmp 86) (.bool true) rfl rfl (by kernel_rfl) ?_)
                simp only [Act.put, List.setIfInBounds_toArray, List.set_cons_succ, List.set_cons_zero]
                go_big_quiet_skip
                go_big_quiet_skip
                go_big_quiet_skip
                go_big_quiet_skip
                go_big_quiet_skip
                go_big_quiet_skip
                go_big_quiet_skip
                go_big_quiet_skip
                go_big_quiet_skip
                go_big_quiet_skip
                go_big_quiet_skip
                go_big_quiet_skip
                refine no_implicit_lambda% (wpQuiet_val (.bool true) rfl (fun W' hW' => ?_) ?_)
                · obtain ⟨i1, i2, i3, i4⟩ := HKS.out W' _ hW'
                  go_simp
                simp only [Act.put, List.setIfInBounds_toArray, List.set_cons_succ, List.set_cons_zero]
                refine no_implicit_lambda% (wpQuiet_end ?_)
                intro w5 hw5
                have Hx := Lib.hid hw5
                clear hw5 v0 v1 v2 v3
                have Ha := Lib.hid (Hx.out.call ((Below.refl _ _).alloc (Nat.le_refl _) (.cells #[.int .i64 (i : Int)] 3)))
                have Hc0 : Hid ((w5.alloc (.cells #[.int .i64 (i : Int)] 3)).cell? ⟨w5.heap.size, 0, none⟩ = some (.int .i64 (i : Int))) := Lib.hid ((Row.new w5 #[.int .i64 (i : Int)] 3).cell 0)
                have Hl1 := Lib.hid Ha.out.below.size
                have Hnt : Hid ((ints (nats (rnugTo F i))).length = (rnugTo F i).length) := Lib.hid (by rw [ints_length, nats_length])
                go_wp2_with (with_reducible refine wpList_append_one rfl (.tmp 101) (.tmp 103) 22 rfl w.heap.size 3 i0 _ 8 Try.underlying22 hi0 hz0 hz1 hz2 rfl A (rnugTo F i).length C (ints (nats (rnugTo F i))) rfl Hnt.out (Ha.out.sl (k := 1) rfl) ⟨w5.heap.size, 0, none⟩ 1 (.int .i64 (i : Int)) rfl Hc0.out rfl (by omega) (by omega) Hl1.out ?_; intro A7 e7 w7 hO7 hT7 hA7; have HO7 := Lib.hid hO7; have HT7 := Lib.hid hT7; have HA7 := Lib.hid hA7; clear hO7 hT7 hA7)
                have H7 := Lib.hid (Ha.out.grow (k := 1) rfl HO7.out HT7.out HA7.out)
                go_roundg (n - (i + 1))
                case measure => omega
                case rel =>
                  refine ⟨i + 1, A7, e7, by omega, rfl, by go_num, by rw [HYes.out, List.length_append]; rfl, ?_⟩
                  rw [HYes.out, ← nats_snoc, ← ints_snoc]
                  exact H7.out
            · have HYes := Lib.hid (HYes.out (by simp [t0, t1, t2, t3]))
              refine wp_region_class (fun W => HH w W [(w.heap.size, rowO 24 [.slice aS n cS, .slice aM N cM, .int .i64 L])] [⟨some ⟨bF, oF, none⟩, cF, 3, ints F⟩, ⟨A, C, 3, ints (nats (rnugTo F i))⟩]) (by kernel_rfl) (by kernel_rfl) Hh.out.drew ?_
              refine no_implicit_lambda% (wpQuiet_move (.tmp 3) (.slice (some ⟨bF, oF, none⟩) N cF) rfl rfl (by kernel_rfl) ?_)
              simp only [Act.put, List.setIfInBounds_toArray, List.set_cons_succ, List.set_cons_zero]
              refine no_implicit_lambda% (wpQuiet_move (.tmp 5) (.int .i64 (i : Int)) rfl rfl (by kernel_rfl) ?_)
              simp only [Act.put, List.setIfInBounds_toArray, List.set_cons_succ, List.set_cons_zero]
              refine no_implicit_lambda% (wpQuiet_val (.int .i64 (a0 : Int)) rfl (fun W' hW' => ?_) ?_)
              · obtain ⟨i1, i2, i3, i4⟩ := HKS.out W' _ hW'
                go_simp
              simp only [Act.put, List.setIfInBounds_toArray, List.set_cons_succ, List.set_cons_zero]
              refine no_implicit_lambda% (wpQuiet_val (.pointer (some ⟨bF, oF + a0, none⟩)) rfl (fun W' hW' => ?_) ?_)
              · obtain ⟨i1, i2, i3, i4⟩ := HKS.out W' _ hW'
                go_simp
              simp only [Act.put, List.setIfInBounds_toArray, List.set_cons_succ, List.set_cons_zero]
              refine no_implicit_lambda% (wpQuiet_val (.int .i64 (f0)) rfl (fun W' hW' => ?_) ?_)
              · obtain ⟨i1, i2, i3, i4⟩ := HKS.out W' _ hW'
                go_simp
              simp only [Act.put, List.setIfInBounds_toArray, List.set_cons_succ, List.set_cons_zero]
              refine no_implicit_lambda% (wpQuiet_move (.tmp 3) (.slice (some ⟨bF, oF, none⟩) N cF) rfl rfl (by kernel_rfl) ?_)
              simp only [Act.put, List.setIfInBounds_toArray, List.set_cons_succ, List.set_cons_zero]
              refine no_implicit_lambda% (wpQuiet_move (.tmp 5) (.int .i64 (i : Int)) rfl rfl (by kernel_rfl) ?_)
              simp only [Act.put, List.setIfInBounds_toArray, List.set_cons_succ, List.set_cons_zero]
              refine no_implicit_lambda% (wpQuiet_val (.int .i64 (a0 : Int)) rfl (fun W' hW' => ?_) ?_)
              · obtain ⟨i1, i2, i3, i4⟩ := HKS.out W' _ hW'
                go_simp
              simp only [Act.put, List.setIfInBounds_toArray, List.set_cons_succ, List.set_cons_zero]
              refine no_implicit_lambda% (wpQuiet_val (.int .i64 (a2 : Int)) rfl (fun W' hW' => ?_) ?_)
              · obtain ⟨i1, i2, i3, i4⟩ := HKS.out W' _ hW'
                go_simp
              simp only [Act.put, List.setIfInBounds_toArray, List.set_cons_succ, List.set_cons_zero]
              refine no_implicit_lambda% (wpQuiet_val (.pointer (some ⟨bF, oF + a2, none⟩)) rfl (fun W' hW' => ?_) ?_)
              · obtain ⟨i1, i2, i3, i4⟩ := HKS.out W' _ hW'
                go_simp
              simp only [Act.put, List.setIfInBounds_toArray, List.set_cons_succ, List.set_cons_zero]
              refine no_implicit_lambda% (wpQuiet_val (.int .i64 (f2)) rfl (fun W' hW' => ?_) ?_)
              · obtain ⟨i1, i2, i3, i4⟩ := HKS.out W' _ hW'
                go_simp
              simp only [Act.put, List.setIfInBounds_toArray, List.set_cons_succ, List.set_cons_zero]
              refine no_implicit_lambda% (wpQuiet_val (.bool false) rfl (fun W' hW' => ?_) ?_)
              · obtain ⟨i1, i2, i3, i4⟩ := HKS.out W' _ hW'
                go_simp
              simp only [Act.put, List.setIfInBounds_toArray, List.set_cons_succ, List.set_cons_zero]
              refine no_implicit_lambda% (wpQuiet_move (.tmp 27) (.bool false) rfl rfl (by kernel_rfl) ?_)
              simp only [Act.put, List.setIfInBounds_toArray, List.set_cons_succ, List.set_cons_zero]
              refine no_implicit_lambda% (wpQuietW_move (.tmp 3) (.slice (some ⟨bF, oF, none⟩) N cF) (by kernel_rfl) rfl (by kernel_rfl) ?_)
              simp only [Act.put, List.setIfInBounds_toArray, List.set_cons_succ, List.set_cons_zero]
              refine no_implicit_lambda% (wpQuietW_move (.tmp 5) (.int .i64 (i : Int)) (by kernel_rfl) rfl (by kernel_rfl) ?_)
              simp only [Act.put, List.setIfInBounds_toArray, List.set_cons_succ, List.set_cons_zero]
              refine no_implicit_lambda% (wpQuietW_val (.int .i64 (a0 : Int)) (by kernel_rfl) (fun W' hW' => ?_) ?_)
              · obtain ⟨i1, i2, i3, i4⟩ := HKS.out W' _ hW'
                go_simp
              simp only [Act.put, List.setIfInBounds_toArray, List.set_cons_succ, List.set_cons_zero]
              refine no_implicit_lambda% (wpQuietW_val (.int .i64 (a1 : Int)) (by kernel_rfl) (fun W' hW' => ?_) ?_)
              · obtain ⟨i1, i2, i3, i4⟩ := HKS.out W' _ hW'
                go_simp
              simp only [Act.put, List.setIfInBounds_toArray, List.set_cons_succ, List.set_cons_zero]
              refine no_implicit_lambda% (wpQuietW_val (.pointer (some ⟨bF, oF + a1, none⟩)) (by kernel_rfl) (fun W' hW' => ?_) ?_)
              · obtain ⟨i1, i2, i3, i4⟩ := HKS.out W' _ hW'
                go_simp
              simp only [Act.put, List.setIfInBounds_toArray, List.set_cons_succ, List.set_cons_zero]
              refine no_implicit_lambda% (wpQuietW_val (.int .i64 (f1)) (by kernel_rfl) (fun W' hW' => ?_) ?_)
              · obtain ⟨i1, i2, i3, i4⟩ := HKS.out W' _ hW'
                go_simp
              simp only [Act.put, List.setIfInBounds_toArray, List.set_cons_succ, List.set_cons_zero]
              refine no_implicit_lambda% (wpQuietW_move (.tmp 3) (.slice (some ⟨bF, oF, none⟩) N cF) (by kernel_rfl) rfl (by kernel_rfl) ?_)
              simp only [Act.put, List.setIfInBounds_toArray, List.set_cons_succ, List.set_cons_zero]
              refine no_implicit_lambda% (wpQuietW_move (.tmp 5) (.int .i64 (i : Int)) (by kernel_rfl) rfl (by kernel_rfl) ?_)
              simp only [Act.put, List.setIfInBounds_toArray, List.set_cons_succ, List.set_cons_zero]
              refine no_implicit_lambda% (wpQuietW_val (.int .i64 (a0 : Int)) (by kernel_rfl) (fun W' hW' => ?_) ?_)
              · obtain ⟨i1, i2, i3, i4⟩ := HKS.out W' _ hW'
                go_simp
              simp only [Act.put, List.setIfInBounds_toArray, List.set_cons_succ, List.set_cons_zero]
              refine no_implicit_lambda% (wpQuietW_val (.int .i64 (a3 : Int)) (by kernel_rfl) (fun W' hW' => ?_) ?_)
              · obtain ⟨i1, i2, i3, i4⟩ := HKS.out W' _ hW'
                go_simp
              simp only [Act.put, List.setIfInBounds_toArray, List.set_cons_succ, List.set_cons_zero]
              refine no_implicit_lambda% (wpQuietW_val (.pointer (some ⟨bF, oF + a3, none⟩)) (by kernel_rfl) (fun W' hW' => ?_) ?_)
              · obtain ⟨i1, i2, i3, i4⟩ := HKS.out W' _ hW'
                go_simp
              simp only [Act.put, List.setIfInBounds_toArray, List.set_cons_succ, List.set_cons_zero]
              refine no_implicit_lambda% (wpQuietW_val (.int .i64 (f3)) (by kernel_rfl) (fun W' hW' => ?_) ?_)
              · obtain ⟨i1, i2, i3, i4⟩ := HKS.out W' _ hW'
                go_simp
              simp only [Act.put, List.setIfInBounds_toArray, List.set_cons_succ, List.set_cons_zero]
              refine no_implicit_lambda% (wpQuietW_val (.bool false) (by kernel_rfl) (fun W' hW' => ?_) ?_)
              · obtain ⟨i1, i2, i3, i4⟩ := HKS.out W' _ hW'
                go_simp
              simp only [Act.put, List.setIfInBounds_toArray, List.set_cons_succ, List.set_cons_zero]
              refine no_implicit_lambda% (wpQuiet_val (.bool false) rfl (fun W' hW' => ?_) ?_)
              · obtain ⟨i1, i2, i3, i4⟩ := HKS.out W' _ hW'
                go_simp
              simp only [Act.put, List.setIfInBounds_toArray, List.set_cons_succ, List.set_cons_zero]
              refine no_implicit_lambda% (wpQuiet_move (.tmp 42) (.bool false) rfl rfl (by kernel_rfl) ?_)
              simp only [Act.put, List.setIfInBounds_toArray, List.set_cons_succ, List.set_cons_zero]
              refine no_implicit_lambda% (wpQuietW_move (.tmp 3) (.slice (some ⟨bF, oF, none⟩) N cF) (by kernel_rfl) rfl (by kernel_rfl) ?_)
              simp only [Act.put, List.setIfInBounds_toArray, List.set_cons_succ, List.set_cons_zero]
              refine no_implicit_lambda% (wpQuietW_move (.tmp 5) (.int .i64 (i : Int)) (by kernel_rfl) rfl (by kernel_rfl) ?_)
              simp only [Act.put, List.setIfInBounds_toArray, List.set_cons_succ, List.set_cons_zero]
              refine no_implicit_lambda% (wpQuietW_val (.int .i64 (a0 : Int)) (by kernel_rfl) (fun W' hW' => ?_) ?_)
              · obtain ⟨i1, i2, i3, i4⟩ := HKS.out W' _ hW'
                go_simp
              simp only [Act.put, List.setIfInBounds_toArray, List.set_cons_succ, List.set_cons_zero]
              refine no_implicit_lambda% (wpQuietW_val (.pointer (some ⟨bF, oF + a0, none⟩)) (by kernel_rfl) (fun W' hW' => ?_) ?_)
              · obtain ⟨i1, i2, i3, i4⟩ := HKS.out W' _ hW'
                go_simp
              simp only [Act.put, List.setIfInBounds_toArray, List.set_cons_succ, List.set_cons_zero]
              refine no_implicit_lambda% (wpQuietW_val (.int .i64 (f0)) (by kernel_rfl) (fun W' hW' => ?_) ?_)
              · obtain ⟨i1, i2, i3, i4⟩ := HKS.out W' _ hW'
                go_simp
              simp only [Act.put, List.setIfInBounds_toArray, List.set_cons_succ, List.set_cons_zero]
              refine no_implicit_lambda% (wpQuietW_move (.tmp 3) (.slice (some ⟨bF, oF, none⟩) N cF) (by kernel_rfl) rfl (by kernel_rfl) ?_)
              simp only [Act.put, List.setIfInBounds_toArray, List.set_cons_succ, List.set_cons_zero]
              refine no_implicit_lambda% (wpQuietW_move (.tmp 5) (.int .i64 (i : Int)) (by kernel_rfl) rfl (by kernel_rfl) ?_)
              simp only [Act.put, List.setIfInBounds_toArray, List.set_cons_succ, List.set_cons_zero]
              refine no_implicit_lambda% (wpQuietW_val (.int .i64 (a0 : Int)) (by kernel_rfl) (fun W' hW' => ?_) ?_)
              · obtain ⟨i1, i2, i3, i4⟩ := HKS.out W' _ hW'
                go_simp
              simp only [Act.put, List.setIfInBounds_toArray, List.set_cons_succ, List.set_cons_zero]
              refine no_implicit_lambda% (wpQuietW_val (.int .i64 (a1 : Int)) (by kernel_rfl) (fun W' hW' => ?_) ?_)
              · obtain ⟨i1, i2, i3, i4⟩ := HKS.out W' _ hW'
                go_simp
              simp only [Act.put, List.setIfInBounds_toArray, List.set_cons_succ, List.set_cons_zero]
              refine no_implicit_lambda% (wpQuietW_val (.pointer (some ⟨bF, oF + a1, none⟩)) (by kernel_rfl) (fun W' hW' => ?_) ?_)
              · obtain ⟨i1, i2, i3, i4⟩ := HKS.out W' _ hW'
                go_simp
              simp only [Act.put, List.setIfInBounds_toArray, List.set_cons_succ, List.set_cons_zero]
              refine no_implicit_lambda% (wpQuietW_val (.int .i64 (f1)) (by kernel_rfl) (fun W' hW' => ?_) ?_)
              · obtain ⟨i1, i2, i3, i4⟩ := HKS.out W' _ hW'
                go_simp
              simp only [Act.put, List.setIfInBounds_toArray, List.set_cons_succ, List.set_cons_zero]
              refine no_implicit_lambda% (wpQuietW_val (.bool false) (by kernel_rfl) (fun W' hW' => ?_) ?_)
              · obtain ⟨i1, i2, i3, i4⟩ := HKS.out W' _ hW'
                go_simp
              simp only [Act.put, List.setIfInBounds_toArray, List.set_cons_succ, List.set_cons_zero]
              refine no_implicit_lambda% (wpQuiet_val (.bool false) rfl (fun W' hW' => ?_) ?_)
              · obtain ⟨i1, i2, i3, i4⟩ := HKS.out W' _ hW'
                go_simp
              simp only [Act.put, List.setIfInBounds_toArray, List.set_cons_succ, List.set_cons_zero]
              refine no_implicit_lambda% (wpQuiet_move (.tmp 56) (.bool false) rfl rfl (by kernel_rfl) ?_)
              simp only [Act.put, List.setIfInBounds_toArray, List.set_cons_succ, List.set_cons_zero]
              refine no_implicit_lambda% (wpQuietW_move (.tmp 3) (.slice (some ⟨bF, oF, none⟩) N cF) (by kernel_rfl) rfl (by kernel_rfl) ?_)
              simp only [Act.put, List.setIfInBounds_toArray, List.set_cons_succ, List.set_cons_zero]
              refine no_implicit_lambda% (wpQuietW_move (.tmp 5) (.int .i64 (i : Int)) (by kernel_rfl) rfl (by kernel_rfl) ?_)
              simp only [Act.put, List.setIfInBounds_toArray, List.set_cons_succ, List.set_cons_zero]
              refine no_implicit_lambda% (wpQuietW_val (.int .i64 (a0 : Int)) (by kernel_rfl) (fun W' hW' => ?_) ?_)
              · obtain ⟨i1, i2, i3, i4⟩ := HKS.out W' _ hW'
                go_simp
              simp only [Act.put, List.setIfInBounds_toArray, List.set_cons_succ, List.set_cons_zero]
              refine no_implicit_lambda% (wpQuietW_val (.int .i64 (a1 : Int)) (by kernel_rfl) (fun W' hW' => ?_) ?_)
              · obtain ⟨i1, i2, i3, i4⟩ := HKS.out W' _ hW'
                go_simp
              simp only [Act.put, List.setIfInBounds_toArray, List.set_cons_succ, List.set_cons_zero]
              refine no_implicit_lambda% (wpQuietW_val (.pointer (some ⟨bF, oF + a1, none⟩)) (by kernel_rfl) (fun W' hW' => ?_) ?_)
              · obtain ⟨i1, i2, i3, i4⟩ := HKS.out W' _ hW'
                go_simp
              simp only [Act.put, List.setIfInBounds_toArray, List.set_cons_succ, List.set_cons_zero]
              refine no_implicit_lambda% (wpQuietW_val (.int .i64 (f1)) (by kernel_rfl) (fun W' hW' => ?_) ?_)
              · obtain ⟨i1, i2, i3, i4⟩ := HKS.out W' _ hW'
                go_simp
              simp only [Act.put, List.setIfInBounds_toArray, List.set_cons_succ, List.set_cons_zero]
              refine no_implicit_lambda% (wpQuietW_move (.tmp 3) (.slice (some ⟨bF, oF, none⟩) N cF) (by kernel_rfl) rfl (by kernel_rfl) ?_)
              simp only [Act.put, List.setIfInBounds_toArray, List.set_cons_succ, List.set_cons_zero]
              refine no_implicit_lambda% (wpQuietW_move (.tmp 5) (.int .i64 (i : Int)) (by kernel_rfl) rfl (by kernel_rfl) ?_)
              simp only [Act.put, List.setIfInBounds_toArray, List.set_cons_succ, List.set_cons_zero]
              refine no_implicit_lambda% (wpQuietW_val (.int .i64 (a0 : Int)) (by kernel_rfl) (fun W' hW' => ?_) ?_)
              · obtain ⟨i1, i2, i3, i4⟩ := HKS.out W' _ hW'
                go_simp
              simp only [Act.put, List.setIfInBounds_toArray, List.set_cons_succ, List.set_cons_zero]
              refine no_implicit_lambda% (wpQuietW_val (.int .i64 (a2 : Int)) (by kernel_rfl) (fun W' hW' => ?_) ?_)
              · obtain ⟨i1, i2, i3, i4⟩ := HKS.out W' _ hW'
                go_simp
              simp only [Act.put, List.setIfInBounds_toArray, List.set_cons_succ, List.set_cons_zero]
              refine no_implicit_lambda% (wpQuietW_val (.pointer (some ⟨bF, oF + a2, none⟩)) (by kernel_rfl) (fun W' hW' => ?_) ?_)
              · obtain ⟨i1, i2, i3, i4⟩ := HKS.out W' _ hW'
                go_simp
              simp only [Act.put, List.setIfInBounds_toArray, List.set_cons_succ, List.set_cons_zero]
              refine no_implicit_lambda% (wpQuietW_val (.int .i64 (f2)) (by kernel_rfl) (fun W' hW' => ?_) ?_)
              · obtain ⟨i1, i2, i3, i4⟩ := HKS.out W' _ hW'
                go_simp
              simp only [Act.put, List.setIfInBounds_toArray, List.set_cons_succ, List.set_cons_zero]
              refine no_implicit_lambda% (wpQuietW_val (.bool true) (by kernel_rfl) (fun W' hW' => ?_) ?_)
              · obtain ⟨i1, i2, i3, i4⟩ := HKS.out W' _ hW'
                go_simp
              simp only [Act.put, List.setIfInBounds_toArray, List.set_cons_succ, List.set_cons_zero]
              refine no_implicit_lambda% (wpQuiet_val (.bool true) rfl (fun W' hW' => ?_) ?_)
              · obtain ⟨i1, i2, i3, i4⟩ := HKS.out W' _ hW'
                go_simp
              simp only [Act.put, List.setIfInBounds_toArray, List.set_cons_succ, List.set_cons_zero]
              refine no_implicit_lambda% (wpQuiet_move (.tmp 71) (.bool true) rfl rfl (by kernel_rfl) ?_)
              simp only [Act.put, List.setIfInBounds_toArray, List.set_cons_succ, List.set_cons_zero]
              go_big_quiet_skip
              go_big_quiet_skip
              go_big_quiet_skip
              go_big_quiet_skip
              go_big_quiet_skip
              go_big_quiet_skip
              go_big_quiet_skip
              go_big_quiet_skip
              go_big_quiet_skip
              go_big_quiet_skip
              go_big_quiet_skip
              go_big_quiet_skip
              go_big_quiet_skip
              refine no_implicit_lambda% (wpQuiet_val (.bool true) rfl (fun W' hW' => ?_) ?_)
              · obtain ⟨i1, i2, i3, i4⟩ := HKS.out W' _ hW'
                go_simp
              simp only [Act.put, List.setIfInBounds_toArray, List.set_cons_succ, List.set_cons_zero]
              refine no_implicit_lambda% (wpQuiet_move (.tmp 86) (.bool true) rfl rfl (by kernel_rfl) ?_)
              simp only [Act.put, List.setIfInBounds_toArray, List.set_cons_succ, List.set_cons_zero]
              go_big_quiet_skip
              go_big_quiet_skip
              go_big_quiet_skip
              go_big_quiet_skip
              go_big_quiet_skip
              go_big_quiet_skip
              go_big_quiet_skip
              go_big_quiet_skip
              go_big_quiet_skip
              go_big_quiet_skip
              go_big_quiet_skip
              go_big_quiet_skip
              refine no_implicit_lambda% (wpQuiet_val (.bool true) rfl (fun W' hW' => ?_) ?_)
              · obtain ⟨i1, i2, i3, i4⟩ := HKS.out W' _ hW'
                go_simp
              simp only [Act.put, List.setIfInBounds_toArray, List.set_cons_succ, List.set_cons_zero]
              refine no_implicit_lambda% (wpQuiet_end ?_)
              intro w5 hw5
              have Hx := Lib.hid hw5
              clear hw5 v0 v1 v2 v3
              have Ha := Lib.hid (Hx.out.call ((Below.refl _ _).alloc (Nat.le_refl _) (.cells #[.int .i64 (i : Int)] 3)))
              have Hc0 : Hid ((w5.alloc (.cells #[.int .i64 (i : Int)] 3)).cell? ⟨w5.heap.size, 0, none⟩ = some (.int .i64 (i : Int))) := Lib.hid ((Row.new w5 #[.int .i64 (i : Int)] 3).cell 0)
              have Hl1 := Lib.hid Ha.out.below.size
              have Hnt : Hid ((ints (nats (rnugTo F i))).length = (rnugTo F i).length) := Lib.hid (by rw [ints_length, nats_length])
              go_wp2_with (with_reducible refine wpList_append_one rfl (.tmp 101) (.tmp 103) 22 rfl w.heap.size 3 i0 _ 8 Try.underlying22 hi0 hz0 hz1 hz2 rfl A (rnugTo F i).length C (ints (nats (rnugTo F i))) rfl Hnt.out (Ha.out.sl (k := 1) rfl) ⟨w5.heap.size, 0, none⟩ 1 (.int .i64 (i : Int)) rfl Hc0.out rfl (by omega) (by omega) Hl1.out ?_; intro A7 e7 w7 hO7 hT7 hA7; have HO7 := Lib.hid hO7; have HT7 := Lib.hid hT7; have HA7 := Lib.hid hA7; clear hO7 hT7 hA7)
              have H7 := Lib.hid (Ha.out.grow (k := 1) rfl HO7.out HT7.out HA7.out)
              go_roundg (n - (i + 1))
              case measure => omega
              case rel =>
                refine ⟨i + 1, A7, e7, by omega, rfl, by go_num, by rw [HYes.out, List.length_append]; rfl, ?_⟩
                rw [HYes.out, ← nats_snoc, ← ints_snoc]
                exact H7.out
          · have HYes := Lib.hid (HYes.out (by simp [t0, t1, t2]))
            refine wp_region_class (fun W => HH w W [(w.heap.size, rowO 24 [.slice aS n cS, .slice aM N cM, .int .i64 L])] [⟨some ⟨bF, oF, none⟩, cF, 3, ints F⟩, ⟨A, C, 3, ints (nats (rnugTo F i))⟩]) (by kernel_rfl) (by kernel_rfl) Hh.out.drew ?_
            refine no_implicit_lambda% (wpQuiet_move (.tmp 3) (.slice (some ⟨bF, oF, none⟩) N cF) rfl rfl (by kernel_rfl) ?_)
            simp only [Act.put, List.setIfInBounds_toArray, List.set_cons_succ, List.set_cons_zero]
            refine no_implicit_lambda% (wpQuiet_move (.tmp 5) (.int .i64 (i : Int)) rfl rfl (by kernel_rfl) ?_)
            simp only [Act.put, List.setIfInBounds_toArray, List.set_cons_succ, List.set_cons_zero]
            refine no_implicit_lambda% (wpQuiet_val (.int .i64 (a0 : Int)) rfl (fun W' hW' => ?_) ?_)
            · obtain ⟨i1, i2, i3, i4⟩ := HKS.out W' _ hW'
              go_simp
            simp only [Act.put, List.setIfInBounds_toArray, List.set_cons_succ, List.set_cons_zero]
            refine no_implicit_lambda% (wpQuiet_val (.pointer (some ⟨bF, oF + a0, none⟩)) rfl (fun W' hW' => ?_) ?_)
            · obtain ⟨i1, i2, i3, i4⟩ := HKS.out W' _ hW'
              go_simp
            simp only [Act.put, List.setIfInBounds_toArray, List.set_cons_succ, List.set_cons_zero]
            refine no_implicit_lambda% (wpQuiet_val (.int .i64 (f0)) rfl (fun W' hW' => ?_) ?_)
            · obtain ⟨i1, i2, i3, i4⟩ := HKS.out W' _ hW'
              go_simp
            simp only [Act.put, List.setIfInBounds_toArray, List.set_cons_succ, List.set_cons_zero]
            refine no_implicit_lambda% (wpQuiet_move (.tmp 3) (.slice (some ⟨bF, oF, none⟩) N cF) rfl rfl (by kernel_rfl) ?_)
            simp only [Act.put, List.setIfInBounds_toArray, List.set_cons_succ, List.set_cons_zero]
            refine no_implicit_lambda% (wpQuiet_move (.tmp 5) (.int .i64 (i : Int)) rfl rfl (by kernel_rfl) ?_)
            simp only [Act.put, List.setIfInBounds_toArray, List.set_cons_succ, List.set_cons_zero]
            refine no_implicit_lambda% (wpQuiet_val (.int .i64 (a0 : Int)) rfl (fun W' hW' => ?_) ?_)
            · obtain ⟨i1, i2, i3, i4⟩ := HKS.out W' _ hW'
              go_simp
            simp only [Act.put, List.setIfInBounds_toArray, List.set_cons_succ, List.set_cons_zero]
            refine no_implicit_lambda% (wpQuiet_val (.int .i64 (a2 : Int)) rfl (fun W' hW' => ?_) ?_)
            · obtain ⟨i1, i2, i3, i4⟩ := HKS.out W' _ hW'
              go_simp
            simp only [Act.put, List.setIfInBounds_toArray, List.set_cons_succ, List.set_cons_zero]
            refine no_implicit_lambda% (wpQuiet_val (.pointer (some ⟨bF, oF + a2, none⟩)) rfl (fun W' hW' => ?_) ?_)
            · obtain ⟨i1, i2, i3, i4⟩ := HKS.out W' _ hW'
              go_simp
            simp only [Act.put, List.setIfInBounds_toArray, List.set_cons_succ, List.set_cons_zero]
            refine no_implicit_lambda% (wpQuiet_val (.int .i64 (f2)) rfl (fun W' hW' => ?_) ?_)
            · obtain ⟨i1, i2, i3, i4⟩ := HKS.out W' _ hW'
              go_simp
            simp only [Act.put, List.setIfInBounds_toArray, List.set_cons_succ, List.set_cons_zero]
            refine no_implicit_lambda% (wpQuiet_val (.bool false) rfl (fun W' hW' => ?_) ?_)
            · obtain ⟨i1, i2, i3, i4⟩ := HKS.out W' _ hW'
              go_simp
            simp only [Act.put, List.setIfInBounds_toArray, List.set_cons_succ, List.set_cons_zero]
            refine no_implicit_lambda% (wpQuiet_move (.tmp 27) (.bool false) rfl rfl (by kernel_rfl) ?_)
            simp only [Act.put, List.setIfInBounds_toArray, List.set_cons_succ, List.set_cons_zero]
            refine no_implicit_lambda% (wpQuietW_move (.tmp 3) (.slice (some ⟨bF, oF, none⟩) N cF) (by kernel_rfl) rfl (by kernel_rfl) ?_)
            simp only [Act.put, List.setIfInBounds_toArray, List.set_cons_succ, List.set_cons_zero]
            refine no_implicit_lambda% (wpQuietW_move (.tmp 5) (.int .i64 (i : Int)) (by kernel_rfl) rfl (by kernel_rfl) ?_)
            simp only [Act.put, List.setIfInBounds_toArray, List.set_cons_succ, List.set_cons_zero]
            refine no_implicit_lambda% (wpQuietW_val (.int .i64 (a0 : Int)) (by kernel_rfl) (fun W' hW' => ?_) ?_)
            · obtain ⟨i1, i2, i3, i4⟩ := HKS.out W' _ hW'
              go_simp
            simp only [Act.put, List.setIfInBounds_toArray, List.set_cons_succ, List.set_cons_zero]
            refine no_implicit_lambda% (wpQuietW_val (.int .i64 (a1 : Int)) (by kernel_rfl) (fun W' hW' => ?_) ?_)
            · obtain ⟨i1, i2, i3, i4⟩ := HKS.out W' _ hW'
              go_simp
            simp only [Act.put, List.setIfInBounds_toArray, List.set_cons_succ, List.set_cons_zero]
            refine no_implicit_lambda% (wpQuietW_val (.pointer (some ⟨bF, oF + a1, none⟩)) (by kernel_rfl) (fun W' hW' => ?_) ?_)
            · obtain ⟨i1, i2, i3, i4⟩ := HKS.out W' _ hW'
              go_simp
            simp only [Act.put, List.setIfInBounds_toArray, List.set_cons_succ, List.set_cons_zero]
            refine no_implicit_lambda% (wpQuietW_val (.int .i64 (f1)) (by kernel_rfl) (fun W' hW' => ?_) ?_)
            · obtain ⟨i1, i2, i3, i4⟩ := HKS.out W' _ hW'
              go_simp
            simp only [Act.put, List.setIfInBounds_toArray, List.set_cons_succ, List.set_cons_zero]
            refine no_implicit_lambda% (wpQuietW_move (.tmp 3) (.slice (some ⟨bF, oF, none⟩) N cF) (by kernel_rfl) rfl (by kernel_rfl) ?_)
            simp only [Act.put, List.setIfInBounds_toArray, List.set_cons_succ, List.set_cons_zero]
            refine no_implicit_lambda% (wpQuietW_move (.tmp 5) (.int .i64 (i : Int)) (by kernel_rfl) rfl (by kernel_rfl) ?_)
            simp only [Act.put, List.setIfInBounds_toArray, List.set_cons_succ, List.set_cons_zero]
            refine no_implicit_lambda% (wpQuietW_val (.int .i64 (a0 : Int)) (by kernel_rfl) (fun W' hW' => ?_) ?_)
            · obtain ⟨i1, i2, i3, i4⟩ := HKS.out W' _ hW'
              go_simp
            simp only [Act.put, List.setIfInBounds_toArray, List.set_cons_succ, List.set_cons_zero]
            refine no_implicit_lambda% (wpQuietW_val (.int .i64 (a3 : Int)) (by kernel_rfl) (fun W' hW' => ?_) ?_)
            · obtain ⟨i1, i2, i3, i4⟩ := HKS.out W' _ hW'
              go_simp
            simp only [Act.put, List.setIfInBounds_toArray, List.set_cons_succ, List.set_cons_zero]
            refine no_implicit_lambda% (wpQuietW_val (.pointer (some ⟨bF, oF + a3, none⟩)) (by kernel_rfl) (fun W' hW' => ?_) ?_)
            · obtain ⟨i1, i2, i3, i4⟩ := HKS.out W' _ hW'
              go_simp
            simp only [Act.put, List.setIfInBounds_toArray, List.set_cons_succ, List.set_cons_zero]
            refine no_implicit_lambda% (wpQuietW_val (.int .i64 (f3)) (by kernel_rfl) (fun W' hW' => ?_) ?_)
            · obtain ⟨i1, i2, i3, i4⟩ := HKS.out W' _ hW'
              go_simp
            simp only [Act.put, List.setIfInBounds_toArray, List.set_cons_succ, List.set_cons_zero]
            refine no_implicit_lambda% (wpQuietW_val (.bool false) (by kernel_rfl) (fun W' hW' => ?_) ?_)
            · obtain ⟨i1, i2, i3, i4⟩ := HKS.out W' _ hW'
              go_simp
            simp only [Act.put, List.setIfInBounds_toArray, List.set_cons_succ, List.set_cons_zero]
            refine no_implicit_lambda% (wpQuiet_val (.bool false) rfl (fun W' hW' => ?_) ?_)
            · obtain ⟨i1, i2, i3, i4⟩ := HKS.out W' _ hW'
              go_simp
            simp only [Act.put, List.setIfInBounds_toArray, List.set_cons_succ, List.set_cons_zero]
            refine no_implicit_lambda% (wpQuiet_move (.tmp 42) (.bool false) rfl rfl (by kernel_rfl) ?_)
            simp only [Act.put, List.setIfInBounds_toArray, List.set_cons_succ, List.set_cons_zero]
            refine no_implicit_lambda% (wpQuietW_move (.tmp 3) (.slice (some ⟨bF, oF, none⟩) N cF) (by kernel_rfl) rfl (by kernel_rfl) ?_)
            simp only [Act.put, List.setIfInBounds_toArray, List.set_cons_succ, List.set_cons_zero]
            refine no_implicit_lambda% (wpQuietW_move (.tmp 5) (.int .i64 (i : Int)) (by kernel_rfl) rfl (by kernel_rfl) ?_)
            simp only [Act.put, List.setIfInBounds_toArray, List.set_cons_succ, List.set_cons_zero]
            refine no_implicit_lambda% (wpQuietW_val (.int .i64 (a0 : Int)) (by kernel_rfl) (fun W' hW' => ?_) ?_)
            · obtain ⟨i1, i2, i3, i4⟩ := HKS.out W' _ hW'
              go_simp
            simp only [Act.put, List.setIfInBounds_toArray, List.set_cons_succ, List.set_cons_zero]
            refine no_implicit_lambda% (wpQuietW_val (.pointer (some ⟨bF, oF + a0, none⟩)) (by kernel_rfl) (fun W' hW' => ?_) ?_)
            · obtain ⟨i1, i2, i3, i4⟩ := HKS.out W' _ hW'
              go_simp
            simp only [Act.put, List.setIfInBounds_toArray, List.set_cons_succ, List.set_cons_zero]
            refine no_implicit_lambda% (wpQuietW_val (.int .i64 (f0)) (by kernel_rfl) (fun W' hW' => ?_) ?_)
            · obtain ⟨i1, i2, i3, i4⟩ := HKS.out W' _ hW'
              go_simp
            simp only [Act.put, List.setIfInBounds_toArray, List.set_cons_succ, List.set_cons_zero]
            refine no_implicit_lambda% (wpQuietW_move (.tmp 3) (.slice (some ⟨bF, oF, none⟩) N cF) (by kernel_rfl) rfl (by kernel_rfl) ?_)
            simp only [Act.put, List.setIfInBounds_toArray, List.set_cons_succ, List.set_cons_zero]
            refine no_implicit_lambda% (wpQuietW_move (.tmp 5) (.int .i64 (i : Int)) (by kernel_rfl) rfl (by kernel_rfl) ?_)
            simp only [Act.put, List.setIfInBounds_toArray, List.set_cons_succ, List.set_cons_zero]
            refine no_implicit_lambda% (wpQuietW_val (.int .i64 (a0 : Int)) (by kernel_rfl) (fun W' hW' => ?_) ?_)
            · obtain ⟨i1, i2, i3, i4⟩ := HKS.out W' _ hW'
              go_simp
            simp only [Act.put, List.setIfInBounds_toArray, List.set_cons_succ, List.set_cons_zero]
            refine no_implicit_lambda% (wpQuietW_val (.int .i64 (a1 : Int)) (by kernel_rfl) (fun W' hW' => ?_) ?_)
            · obtain ⟨i1, i2, i3, i4⟩ := HKS.out W' _ hW'
              go_simp
            simp only [Act.put, List.setIfInBounds_toArray, List.set_cons_succ, List.set_cons_zero]
            refine no_implicit_lambda% (wpQuietW_val (.pointer (some ⟨bF, oF + a1, none⟩)) (by kernel_rfl) (fun W' hW' => ?_) ?_)
            · obtain ⟨i1, i2, i3, i4⟩ := HKS.out W' _ hW'
              go_simp
            simp only [Act.put, List.setIfInBounds_toArray, List.set_cons_succ, List.set_cons_zero]
            refine no_implicit_lambda% (wpQuietW_val (.int .i64 (f1)) (by kernel_rfl) (fun W' hW' => ?_) ?_)
            · obtain ⟨i1, i2, i3, i4⟩ := HKS.out W' _ hW'
              go_simp
            simp only [Act.put, List.setIfInBounds_toArray, List.set_cons_succ, List.set_cons_zero]
            refine no_implicit_lambda% (wpQuietW_val (.bool true) (by kernel_rfl) (fun W' hW' => ?_) ?_)
            · obtain ⟨i1, i2, i3, i4⟩ := HKS.out W' _ hW'
              go_simp
            simp only [Act.put, List.setIfInBounds_toArray, List.set_cons_succ, List.set_cons_zero]
            refine no_implicit_lambda% (wpQuiet_val (.bool true) rfl (fun W' hW' => ?_) ?_)
            · obtain ⟨i1, i2, i3, i4⟩ := HKS.out W' _ hW'
              go_simp
            simp only [Act.put, List.setIfInBounds_toArray, List.set_cons_succ, List.set_cons_zero]
            refine no_implicit_lambda% (wpQuiet_move (.tmp 56) (.bool true) rfl rfl (by kernel_rfl) ?_)
            simp only [Act.put, List.setIfInBounds_toArray, List.set_cons_succ, List.set_cons_zero]
            go_big_quiet_skip
            go_big_quiet_skip
            go_big_quiet_skip
            go_big_quiet_skip
            go_big_quiet_skip
            go_big_quiet_skip
            go_big_quiet_skip
            go_big_quiet_skip
            go_big_quiet_skip
            go_big_quiet_skip
            go_big_quiet_skip
            go_big_quiet_skip
            go_big_quiet_skip
            refine no_implicit_lambda% (wpQuiet_val (.bool true) rfl (fun W' hW' => ?_) ?_)
            · obtain ⟨i1, i2, i3, i4⟩ := HKS.out W' _ hW'
              go_simp
            simp only [Act.put, List.setIfInBounds_toArray, List.set_cons_succ, List.set_cons_zero]
            refine no_implicit_lambda% (wpQuiet_move (.tmp 71) (.bool true) rfl rfl (by kernel_rfl) ?_)
            simp only [Act.put, List.setIfInBounds_toArray, List.set_cons_succ, List.set_cons_zero]
            go_big_quiet_skip
            go_big_quiet_skip
            go_big_quiet_skip
            go_big_quiet_skip
            go_big_quiet_skip
            go_big_quiet_skip
            go_big_quiet_skip
            go_big_quiet_skip
            go_big_quiet_skip
            go_big_quiet_skip
            go_big_quiet_skip
            go_big_quiet_skip
            go_big_quiet_skip
            refine no_implicit_lambda% (wpQuiet_val (.bool true) rfl (fun W' hW' => ?_) ?_)
            · obtain ⟨i1, i2, i3, i4⟩ := HKS.out W' _ hW'
              go_simp
            simp only [Act.put, List.setIfInBounds_toArray, List.set_cons_succ, List.set_cons_zero]
            refine no_implicit_lambda% (wpQuiet_move (.tmp 86) (.bool true) rfl rfl (by kernel_rfl) ?_)
            simp only [Act.put, List.setIfInBounds_toArray, List.set_cons_succ, List.set_cons_zero]
            go_big_quiet_skip
            go_big_quiet_skip
            go_big_quiet_skip
            go_big_quiet_skip
            go_big_quiet_skip
            go_big_quiet_skip
            go_big_quiet_skip
            go_big_quiet_skip
            go_big_quiet_skip
            go_big_quiet_skip
            go_big_quiet_skip
            go_big_quiet_skip
            refine no_implicit_lambda% (wpQuiet_val (.bool true) rfl (fun W' hW' => ?_) ?_)
            · obtain ⟨i1, i2, i3, i4⟩ := HKS.out W' _ hW'
              go_simp
            simp only [Act.put, List.setIfInBounds_toArray, List.set_cons_succ, List.set_cons_zero]
            refine no_implicit_lambda% (wpQuiet_end ?_)
            intro w5 hw5
            have Hx := Lib.hid hw5
            clear hw5 v0 v1 v2 v3
            have Ha := Lib.hid (Hx.out.call ((Below.refl _ _).alloc (Nat.le_refl _) (.cells #[.int .i64 (i : Int)] 3)))
            have Hc0 : Hid ((w5.alloc (.cells #[.int .i64 (i : Int)] 3)).cell? ⟨w5.heap.size, 0, none⟩ = some (.int .i64 (i : Int))) := Lib.hid ((Row.new w5 #[.int .i64 (i : Int)] 3).cell 0)
            have Hl1 := Lib.hid Ha.out.below.size
            have Hnt : Hid ((ints (nats (rnugTo F i))).length = (rnugTo F i).length) := Lib.hid (by rw [ints_length, nats_length])
            go_wp2_with (with_reducible refine wpList_append_one rfl (.tmp 101) (.tmp 103) 22 rfl w.heap.size 3 i0 _ 8 Try.underlying22 hi0 hz0 hz1 hz2 rfl A (rnugTo F i).length C (ints (nats (rnugTo F i))) rfl Hnt.out (Ha.out.sl (k := 1) rfl) ⟨w5.heap.size, 0, none⟩ 1 (.int .i64 (i : Int)) rfl Hc0.out rfl (by omega) (by omega) Hl1.out ?_; intro A7 e7 w7 hO7 hT7 hA7; have HO7 := Lib.hid hO7; have HT7 := Lib.hid hT7; have HA7 := Lib.hid hA7; clear hO7 hT7 hA7)
            have H7 := Lib.hid (Ha.out.grow (k := 1) rfl HO7.out HT7.out HA7.out)
            go_roundg (n - (i + 1))
            case measure => omega
            case rel =>
              refine ⟨i + 1, A7, e7, by omega, rfl, by go_num, by rw [HYes.out, List.length_append]; rfl, ?_⟩
              rw [HYes.out, ← nats_snoc, ← ints_snoc]
              exact H7.out
        · have HYes := Lib.hid (HYes.out (by simp [t0, t1]))
          refine wp_region_class (fun W => HH w W [(w.heap.size, rowO 24 [.slice aS n cS, .slice aM N cM, .int .i64 L])] [⟨some ⟨bF, oF, none⟩, cF, 3, ints F⟩, ⟨A, C, 3, ints (nats (rnugTo F i))⟩]) (by kernel_rfl) (by kernel_rfl) Hh.out.drew ?_
          refine no_implicit_lambda% (wpQuiet_move (.tmp 3) (.slice (some ⟨bF, oF, none⟩) N cF) rfl rfl (by kernel_rfl) ?_)
          simp only [Act.put, List.setIfInBounds_toArray, List.set_cons_succ, List.set_cons_zero]
          refine no_implicit_lambda% (wpQuiet_move (.tmp 5) (.int .i64 (i : Int)) rfl rfl (by kernel_rfl) ?_)
          simp only [Act.put, List.setIfInBounds_toArray, List.set_cons_succ, List.set_cons_zero]
          refine no_implicit_lambda% (wpQuiet_val (.int .i64 (a0 : Int)) rfl (fun W' hW' => ?_) ?_)
          · obtain ⟨i1, i2, i3, i4⟩ := HKS.out W' _ hW'
            go_simp
          simp only [Act.put, List.setIfInBounds_toArray, List.set_cons_succ, List.set_cons_zero]
          refine no_implicit_lambda% (wpQuiet_val (.pointer (some ⟨bF, oF + a0, none⟩)) rfl (fun W' hW' => ?_) ?_)
          · obtain ⟨i1, i2, i3, i4⟩ := HKS.out W' _ hW'
            go_simp
          simp only [Act.put, List.setIfInBounds_toArray, List.set_cons_succ, List.set_cons_zero]
          refine no_implicit_lambda% (wpQuiet_val (.int .i64 (f0)) rfl (fun W' hW' => ?_) ?_)
          · obtain ⟨i1, i2, i3, i4⟩ := HKS.out W' _ hW'
            go_simp
          simp only [Act.put, List.setIfInBounds_toArray, List.set_cons_succ, List.set_cons_zero]
          refine no_implicit_lambda% (wpQuiet_move (.tmp 3) (.slice (some ⟨bF, oF, none⟩) N cF) rfl rfl (by kernel_rfl) ?_)
          simp only [Act.put, List.setIfInBounds_toArray, List.set_cons_succ, List.set_cons_zero]
          refine no_implicit_lambda% (wpQuiet_move (.tmp 5) (.int .i64 (i : Int)) rfl rfl (by kernel_rfl) ?_)
          simp only [Act.put, List.setIfInBounds_toArray, List.set_cons_succ, List.set_cons_zero]
          refine no_implicit_lambda% (wpQuiet_val (.int .i64 (a0 : Int)) rfl (fun W' hW' => ?_) ?_)
          · obtain ⟨i1, i2, i3, i4⟩ := HKS.out W' _ hW'
            go_simp
          simp only [Act.put, List.setIfInBounds_toArray, List.set_cons_succ, List.set_cons_zero]
          refine no_implicit_lambda% (wpQuiet_val (.int .i64 (a2 : Int)) rfl (fun W' hW' => ?_) ?_)
          · obtain ⟨i1, i2, i3, i4⟩ := HKS.out W' _ hW'
            go_simp
          simp only [Act.put, List.setIfInBounds_toArray, List.set_cons_succ, List.set_cons_zero]
          refine no_implicit_lambda% (wpQuiet_val (.pointer (some ⟨bF, oF + a2, none⟩)) rfl (fun W' hW' => ?_) ?_)
          · obtain ⟨i1, i2, i3, i4⟩ := HKS.out W' _ hW'
            go_simp
          simp only [Act.put, List.setIfInBounds_toArray, List.set_cons_succ, List.set_cons_zero]
          refine no_implicit_lambda% (wpQuiet_val (.int .i64 (f2)) rfl (fun W' hW' => ?_) ?_)
          · obtain ⟨i1, i2, i3, i4⟩ := HKS.out W' _ hW'
            go_simp
          simp only [Act.put, List.setIfInBounds_toArray, List.set_cons_succ, List.set_cons_zero]
          refine no_implicit_lambda% (wpQuiet_val (.bool false) rfl (fun W' hW' => ?_) ?_)
          · obtain ⟨i1, i2, i3, i4⟩ := HKS.out W' _ hW'
            go_simp
          simp only [Act.put, List.setIfInBounds_toArray, List.set_cons_succ, List.set_cons_zero]
          refine no_implicit_lambda% (wpQuiet_move (.tmp 27) (.bool false) rfl rfl (by kernel_rfl) ?_)
          simp only [Act.put, List.setIfInBounds_toArray, List.set_cons_succ, List.set_cons_zero]
          refine no_implicit_lambda% (wpQuietW_move (.tmp 3) (.slice (some ⟨bF, oF, none⟩) N cF) (by kernel_rfl) rfl (by kernel_rfl) ?_)
          simp only [Act.put, List.setIfInBounds_toArray, List.set_cons_succ, List.set_cons_zero]
          refine no_implicit_lambda% (wpQuietW_move (.tmp 5) (.int .i64 (i : Int)) (by kernel_rfl) rfl (by kernel_rfl) ?_)
          simp only [Act.put, List.setIfInBounds_toArray, List.set_cons_succ, List.set_cons_zero]
          refine no_implicit_lambda% (wpQuietW_val (.int .i64 (a0 : Int)) (by kernel_rfl) (fun W' hW' => ?_) ?_)
          · obtain ⟨i1, i2, i3, i4⟩ := HKS.out W' _ hW'
            go_simp
          simp only [Act.put, List.setIfInBounds_toArray, List.set_cons_succ, List.set_cons_zero]
          refine no_implicit_lambda% (wpQuietW_val (.int .i64 (a1 : Int)) (by kernel_rfl) (fun W' hW' => ?_) ?_)
          · obtain ⟨i1, i2, i3, i4⟩ := HKS.out W' _ hW'
            go_simp
          simp only [Act.put, List.setIfInBounds_toArray, List.set_cons_succ, List.set_cons_zero]
          refine no_implicit_lambda% (wpQuietW_val (.pointer (some ⟨bF, oF + a1, none⟩)) (by kernel_rfl) (fun W' hW' => ?_) ?_)
          · obtain ⟨i1, i2, i3, i4⟩ := HKS.out W' _ hW'
            go_simp
          simp only [Act.put, List.setIfInBounds_toArray, List.set_cons_succ, List.set_cons_zero]
          refine no_implicit_lambda% (wpQuietW_val (.int .i64 (f1)) (by kernel_rfl) (fun W' hW' => ?_) ?_)
          · obtain ⟨i1, i2, i3, i4⟩ := HKS.out W' _ hW'
            go_simp
          simp only [Act.put, List.setIfInBounds_toArray, List.set_cons_succ, List.set_cons_zero]
          refine no_implicit_lambda% (wpQuietW_move (.tmp 3) (.slice (some ⟨bF, oF, none⟩) N cF) (by kernel_rfl) rfl (by kernel_rfl) ?_)
          simp only [Act.put, List.setIfInBounds_toArray, List.set_cons_succ, List.set_cons_zero]
          refine no_implicit_lambda% (wpQuietW_move (.tmp 5) (.int .i64 (i : Int)) (by kernel_rfl) rfl (by kernel_rfl) ?_)
          simp only [Act.put, List.setIfInBounds_toArray, List.set_cons_succ, List.set_cons_zero]
          refine no_implicit_lambda% (wpQuietW_val (.int .i64 (a0 : Int)) (by kernel_rfl) (fun W' hW' => ?_) ?_)
          · obtain ⟨i1, i2, i3, i4⟩ := HKS.out W' _ hW'
            go_simp
          simp only [Act.put, List.setIfInBounds_toArray, List.set_cons_succ, List.set_cons_zero]
          refine no_implicit_lambda% (wpQuietW_val (.int .i64 (a3 : Int)) (by kernel_rfl) (fun W' hW' => ?_) ?_)
          · obtain ⟨i1, i2, i3, i4⟩ := HKS.out W' _ hW'
            go_simp
          simp only [Act.put, List.setIfInBounds_toArray, List.set_cons_succ, List.set_cons_zero]
          refine no_implicit_lambda% (wpQuietW_val (.pointer (some ⟨bF, oF + a3, none⟩)) (by kernel_rfl) (fun W' hW' => ?_) ?_)
          · obtain ⟨i1, i2, i3, i4⟩ := HKS.out W' _ hW'
            go_simp
          simp only [Act.put, List.setIfInBounds_toArray, List.set_cons_succ, List.set_cons_zero]
          refine no_implicit_lambda% (wpQuietW_val (.int .i64 (f3)) (by kernel_rfl) (fun W' hW' => ?_) ?_)
          · obtain ⟨i1, i2, i3, i4⟩ := HKS.out W' _ hW'
            go_simp
          simp only [Act.put, List.setIfInBounds_toArray, List.set_cons_succ, List.set_cons_zero]
          refine no_implicit_lambda% (wpQuietW_val (.bool true) (by kernel_rfl) (fun W' hW' => ?_) ?_)
          · obtain ⟨i1, i2, i3, i4⟩ := HKS.out W' _ hW'
            go_simp
          simp only [Act.put, List.setIfInBounds_toArray, List.set_cons_succ, List.set_cons_zero]
          refine no_implicit_lambda% (wpQuiet_val (.bool true) rfl (fun W' hW' => ?_) ?_)
          · obtain ⟨i1, i2, i3, i4⟩ := HKS.out W' _ hW'
            go_simp
          simp only [Act.put, List.setIfInBounds_toArray, List.set_cons_succ, List.set_cons_zero]
          refine no_implicit_lambda% (wpQuiet_move (.tmp 42) (.bool true) rfl rfl (by kernel_rfl) ?_)
          simp only [Act.put, List.setIfInBounds_toArray, List.set_cons_succ, List.set_cons_zero]
          go_big_quiet_skip
          go_big_quiet_skip
          go_big_quiet_skip
          go_big_quiet_skip
          go_big_quiet_skip
          go_big_quiet_skip
          go_big_quiet_skip
          go_big_quiet_skip
          go_big_quiet_skip
          go_big_quiet_skip
          go_big_quiet_skip
          go_big_quiet_skip
          refine no_implicit_lambda% (wpQuiet_val (.bool true) rfl (fun W' hW' => ?_) ?_)
          · obtain ⟨i1, i2, i3, i4⟩ := HKS.out W' _ hW'
            go_simp
          simp only [Act.put, List.setIfInBounds_toArray, List.set_cons_succ, List.set_cons_zero]
          refine no_implicit_lambda% (wpQuiet_move (.tmp 56) (.bool true) rfl rfl (by kernel_rfl) ?_)
          simp only [Act.put, List.setIfInBounds_toArray, List.set_cons_succ, List.set_cons_zero]
          go_big_quiet_skip
          go_big_quiet_skip
          go_big_quiet_skip
          go_big_quiet_skip
          go_big_quiet_skip
          go_big_quiet_skip
          go_big_quiet_skip
          go_big_quiet_skip
          go_big_quiet_skip
          go_big_quiet_skip
          go_big_quiet_skip
          go_big_quiet_skip
          go_big_quiet_skip
          refine no_implicit_lambda% (wpQuiet_val (.bool true) rfl (fun W' hW' => ?_) ?_)
          · obtain ⟨i1, i2, i3, i4⟩ := HKS.out W' _ hW'
            go_simp
          simp only [Act.put, List.setIfInBounds_toArray, List.set_cons_succ, List.set_cons_zero]
          refine no_implicit_lambda% (wpQuiet_move (.tmp 71) (.bool true) rfl rfl (by kernel_rfl) ?_)
          simp only [Act.put, List.setIfInBounds_toArray, List.set_cons_succ, List.set_cons_zero]
          go_big_quiet_skip
          go_big_quiet_skip
          go_big_quiet_skip
          go_big_quiet_skip
          go_big_quiet_skip
          go_big_quiet_skip
          go_big_quiet_skip
          go_big_quiet_skip
          go_big_quiet_skip
          go_big_quiet_skip
          go_big_quiet_skip
          go_big_quiet_skip
          go_big_quiet_skip
          refine no_implicit_lambda% (wpQuiet_val (.bool true) rfl (fun W' hW' => ?_) ?_)
          · obtain ⟨i1, i2, i3, i4⟩ := HKS.out W' _ hW'
            go_simp
          simp only [Act.put, List.setIfInBounds_toArray, List.set_cons_succ, List.set_cons_zero]
          refine no_implicit_lambda% (wpQuiet_move (.tmp 86) (.bool true) rfl rfl (by kernel_rfl) ?_)
          simp only [Act.put, List.setIfInBounds_toArray, List.set_cons_succ, List.set_cons_zero]
          go_big_quiet_skip
          go_big_quiet_skip
          go_big_quiet_skip
          go_big_quiet_skip
          go_big_quiet_skip
          go_big_quiet_skip
          go_big_quiet_skip
          go_big_quiet_skip
          go_big_quiet_skip
          go_big_quiet_skip
          go_big_quiet_skip
          go_big_quiet_skip
          refine no_implicit_lambda% (wpQuiet_val (.bool true) rfl (fun W' hW' => ?_) ?_)
          · obtain ⟨i1, i2, i3, i4⟩ := HKS.out W' _ hW'
            go_simp
          simp only [Act.put, List.setIfInBounds_toArray, List.set_cons_succ, List.set_cons_zero]
          refine no_implicit_lambda% (wpQuiet_end ?_)
          intro w5 hw5
          have Hx := Lib.hid hw5
          clear hw5 v0 v1 v2 v3
          have Ha := Lib.hid (Hx.out.call ((Below.refl _ _).alloc (Nat.le_refl _) (.cells #[.int .i64 (i : Int)] 3)))
          have Hc0 : Hid ((w5.alloc (.cells #[.int .i64 (i : Int)] 3)).cell? ⟨w5.heap.size, 0, none⟩ = some (.int .i64 (i : Int))) := Lib.hid ((Row.new w5 #[.int .i64 (i : Int)] 3).cell 0)
          have Hl1 := Lib.hid Ha.out.below.size
          have Hnt : Hid ((ints (nats (rnugTo F i))).length = (rnugTo F i).length) := Lib.hid (by rw [ints_length, nats_length])
          go_wp2_with (with_reducible refine wpList_append_one rfl (.tmp 101) (.tmp 103) 22 rfl w.heap.size 3 i0 _ 8 Try.underlying22 hi0 hz0 hz1 hz2 rfl A (rnugTo F i).length C (ints (nats (rnugTo F i))) rfl Hnt.out (Ha.out.sl (k := 1) rfl) ⟨w5.heap.size, 0, none⟩ 1 (.int .i64 (i : Int)) rfl Hc0.out rfl (by omega) (by omega) Hl1.out ?_; intro A7 e7 w7 hO7 hT7 hA7; have HO7 := Lib.hid hO7; have HT7 := Lib.hid hT7; have HA7 := Lib.hid hA7; clear hO7 hT7 hA7)
          have H7 := Lib.hid (Ha.out.grow (k := 1) rfl HO7.out HT7.out HA7.out)
          go_roundg (n - (i + 1))
          case measure => omega
          case rel =>
            refine ⟨i + 1, A7, e7, by omega, rfl, by go_num, by rw [HYes.out, List.length_append]; rfl, ?_⟩
            rw [HYes.out, ← nats_snoc, ← ints_snoc]
            exact H7.out
      · have HYes := Lib.hid (HYes.out (by simp [t0]))
        refine wp_region_class (fun W => HH w W [(w.heap.size, rowO 24 [.slice aS n cS, .slice aM N cM, .int .i64 L])] [⟨some ⟨bF, oF, none⟩, cF, 3, ints F⟩, ⟨A, C, 3, ints (nats (rnugTo F i))⟩]) (by kernel_rfl) (by kernel_rfl) Hh.out.drew ?_
        refine no_implicit_lambda% (wpQuiet_move (.tmp 3) (.slice (some ⟨bF, oF, none⟩) N cF) rfl rfl (by kernel_rfl) ?_)
        simp only [Act.put, List.setIfInBounds_toArray, List.set_cons_succ, List.set_cons_zero]
        refine no_implicit_lambda% (wpQuiet_move (.tmp 5) (.int .i64 (i : Int)) rfl rfl (by kernel_rfl) ?_)
        simp only [Act.put, List.setIfInBounds_toArray, List.set_cons_succ, List.set_cons_zero]
        refine no_implicit_lambda% (wpQuiet_val (.int .i64 (a0 : Int)) rfl (fun W' hW' => ?_) ?_)
        · obtain ⟨i1, i2, i3, i4⟩ := HKS.out W' _ hW'
          go_simp
        simp only [Act.put, List.setIfInBounds_toArray, List.set_cons_succ, List.set_cons_zero]
        refine no_implicit_lambda% (wpQuiet_val (.pointer (some ⟨bF, oF + a0, none⟩)) rfl (fun W' hW' => ?_) ?_)
        · obtain ⟨i1, i2, i3, i4⟩ := HKS.out W' _ hW'
          go_simp
        simp only [Act.put, List.setIfInBounds_toArray, List.set_cons_succ, List.set_cons_zero]
        refine no_implicit_lambda% (wpQuiet_val (.int .i64 (f0)) rfl (fun W' hW' => ?_) ?_)
        · obtain ⟨i1, i2, i3, i4⟩ := HKS.out W' _ hW'
          go_simp
        simp only [Act.put, List.setIfInBounds_toArray, List.set_cons_succ, List.set_cons_zero]
        refine no_implicit_lambda% (wpQuiet_move (.tmp 3) (.slice (some ⟨bF, oF, none⟩) N cF) rfl rfl (by kernel_rfl) ?_)
        simp only [Act.put, List.setIfInBounds_toArray, List.set_cons_succ, List.set_cons_zero]
        refine no_implicit_lambda% (wpQuiet_move (.tmp 5) (.int .i64 (i : Int)) rfl rfl (by kernel_rfl) ?_)
        simp only [Act.put, List.setIfInBounds_toArray, List.set_cons_succ, List.set_cons_zero]
        refine no_implicit_lambda% (wpQuiet_val (.int .i64 (a0 : Int)) rfl (fun W' hW' => ?_) ?_)
        · obtain ⟨i1, i2, i3, i4⟩ := HKS.out W' _ hW'
          go_simp
        simp only [Act.put, List.setIfInBounds_toArray, List.set_cons_succ, List.set_cons_zero]
        refine no_implicit_lambda% (wpQuiet_val (.int .i64 (a2 : Int)) rfl (fun W' hW' => ?_) ?_)
        · obtain ⟨i1, i2, i3, i4⟩ := HKS.out W' _ hW'
          go_simp
        simp only [Act.put, List.setIfInBounds_toArray, List.set_cons_succ, List.set_cons_zero]
        refine no_implicit_lambda% (wpQuiet_val (.pointer (some ⟨bF, oF + a2, none⟩)) rfl (fun W' hW' => ?_) ?_)
        · obtain ⟨i1, i2, i3, i4⟩ := HKS.out W' _ hW'
          go_simp
        simp only [Act.put, List.setIfInBounds_toArray, List.set_cons_succ, List.set_cons_zero]
        refine no_implicit_lambda% (wpQuiet_val (.int .i64 (f2)) rfl (fun W' hW' => ?_) ?_)
        · obtain ⟨i1, i2, i3, i4⟩ := HKS.out W' _ hW'
          go_simp
        simp only [Act.put, List.setIfInBounds_toArray, List.set_cons_succ, List.set_cons_zero]
        refine no_implicit_lambda% (wpQuiet_val (.bool true) rfl (fun W' hW' => ?_) ?_)
        · obtain ⟨i1, i2, i3, i4⟩ := HKS.out W' _ hW'
          go_simp
        simp only [Act.put, List.setIfInBounds_toArray, List.set_cons_succ, List.set_cons_zero]
        refine no_implicit_lambda% (wpQuiet_move (.tmp 27) (.bool true) rfl rfl (by kernel_rfl) ?_)
        simp only [Act.put, List.setIfInBounds_toArray, List.set_cons_succ, List.set_cons_zero]
        go_big_quiet_skip
        go_big_quiet_skip
        go_big_quiet_skip
        go_big_quiet_skip
        go_big_quiet_skip
        go_big_quiet_skip
        go_big_quiet_skip
        go_big_quiet_skip
        go_big_quiet_skip
        go_big_quiet_skip
        go_big_quiet_skip
        go_big_quiet_skip
        go_big_quiet_skip
        refine no_implicit_lambda% (wpQuiet_val (.bool true) rfl (fun W' hW' => ?_) ?_)
        · obtain ⟨i1, i2, i3, i4⟩ := HKS.out W' _ hW'
          go_simp
        simp only [Act.put, List.setIfInBounds_toArray, List.set_cons_succ, List.set_cons_zero]
        refine no_implicit_lambda% (wpQuiet_move (.tmp 42) (.bool true) rfl rfl (by kernel_rfl) ?_)
        simp only [Act.put, List.setIfInBounds_toArray, List.set_cons_succ, List.set_cons_zero]
        go_big_quiet_skip
        go_big_quiet_skip
        go_big_quiet_skip
        go_big_quiet_skip
        go_big_quiet_skip
        go_big_quiet_skip
        go_big_quiet_skip
        go_big_quiet_skip
        go_big_quiet_skip
        go_big_quiet_skip
        go_big_quiet_skip
        go_big_quiet_skip
        refine no_implicit_lambda% (wpQuiet_val (.bool true) rfl (fun W' hW' => ?_) ?_)
        · obtain ⟨i1, i2, i3, i4⟩ := HKS.out W' _ hW'
          go_simp
        simp only [Act.put, List.setIfInBounds_toArray, List.set_cons_succ, List.set_cons_zero]
        refine no_implicit_lambda% (wpQuiet_move (.tmp 56) (.bool true) rfl rfl (by kernel_rfl) ?_)
        simp only [Act.put, List.setIfInBounds_toArray, List.set_cons_succ, List.set_cons_zero]
        go_big_quiet_skip
        go_big_quiet_skip
        go_big_quiet_skip
        go_big_quiet_skip
        go_big_quiet_skip
        go_big_quiet_skip
        go_big_quiet_skip
        go_big_quiet_skip
        go_big_quiet_skip
        go_big_quiet_skip
        go_big_quiet_skip
        go_big_quiet_skip
        go_big_quiet_skip
        refine no_implicit_lambda% (wpQuiet_val (.bool true) rfl (fun W' hW' => ?_) ?_)
        · obtain ⟨i1, i2, i3, i4⟩ := HKS.out W' _ hW'
          go_simp
        simp only [Act.put, List.setIfInBounds_toArray, List.set_cons_succ, List.set_cons_zero]
        refine no_implicit_lambda% (wpQuiet_move (.tmp 71) (.bool true) rfl rfl (by kernel_rfl) ?_)
        simp only [Act.put, List.setIfInBounds_toArray, List.set_cons_succ, List.set_cons_zero]
        go_big_quiet_skip
        go_big_quiet_skip
        go_big_quiet_skip
        go_big_quiet_skip
        go_big_quiet_skip
        go_big_quiet_skip
        go_big_quiet_skip
        go_big_quiet_skip
        go_big_quiet_skip
        go_big_quiet_skip
        go_big_quiet_skip
        go_big_quiet_skip
        go_big_quiet_skip
        refine no_implicit_lambda% (wpQuiet_val (.bool true) rfl (fun W' hW' => ?_) ?_)
        · obtain ⟨i1, i2, i3, i4⟩ := HKS.out W' _ hW'
          go_simp
        simp only [Act.put, List.setIfInBounds_toArray, List.set_cons_succ, List.set_cons_zero]
        refine no_implicit_lambda% (wpQuiet_move (.tmp 86) (.bool true) rfl rfl (by kernel_rfl) ?_)
        simp only [Act.put, List.setIfInBounds_toArray, List.set_cons_succ, List.set_cons_zero]
        go_big_quiet_skip
        go_big_quiet_skip
        go_big_quiet_skip
        go_big_quiet_skip
        go_big_quiet_skip
        go_big_quiet_skip
        go_big_quiet_skip
        go_big_quiet_skip
        go_big_quiet_skip
        go_big_quiet_skip
        go_big_quiet_skip
        go_big_quiet_skip
        refine no_implicit_lambda% (wpQuiet_val (.bool true) rfl (fun W' hW' => ?_) ?_)
        · obtain ⟨i1, i2, i3, i4⟩ := HKS.out W' _ hW'
          go_simp
        simp only [Act.put, List.setIfInBounds_toArray, List.set_cons_succ, List.set_cons_zero]
        refine no_implicit_lambda% (wpQuiet_end ?_)
        intro w5 hw5
        have Hx := Lib.hid hw5
        clear hw5 v0 v1 v2 v3
        have Ha := Lib.hid (Hx.out.call ((Below.refl _ _).alloc (Nat.le_refl _) (.cells #[.int .i64 (i : Int)] 3)))
        have Hc0 : Hid ((w5.alloc (.cells #[.int .i64 (i : Int)] 3)).cell? ⟨w5.heap.size, 0, none⟩ = some (.int .i64 (i : Int))) := Lib.hid ((Row.new w5 #[.int .i64 (i : Int)] 3).cell 0)
        have Hl1 := Lib.hid Ha.out.below.size
        have Hnt : Hid ((ints (nats (rnugTo F i))).length = (rnugTo F i).length) := Lib.hid (by rw [ints_length, nats_length])
        go_wp2_with (with_reducible refine wpList_append_one rfl (.tmp 101) (.tmp 103) 22 rfl w.heap.size 3 i0 _ 8 Try.underlying22 hi0 hz0 hz1 hz2 rfl A (rnugTo F i).length C (ints (nats (rnugTo F i))) rfl Hnt.out (Ha.out.sl (k := 1) rfl) ⟨w5.heap.size, 0, none⟩ 1 (.int .i64 (i : Int)) rfl Hc0.out rfl (by omega) (by omega) Hl1.out ?_; intro A7 e7 w7 hO7 hT7 hA7; have HO7 := Lib.hid hO7; have HT7 := Lib.hid hT7; have HA7 := Lib.hid hA7; clear hO7 hT7 hA7)
        have H7 := Lib.hid (Ha.out.grow (k := 1) rfl HO7.out HT7.out HA7.out)
        go_roundg (n - (i + 1))
        case measure => omega
        case rel =>
          refine ⟨i + 1, A7, e7, by omega, rfl, by go_num, by rw [HYes.out, List.length_append]; rfl, ?_⟩
          rw [HYes.out, ← nats_snoc, ← ints_snoc]
          exact H7.out
    · obtain rfl : i = n := by omega
      go_wp2_with fail
      go_ret
      exact ⟨A, C, rfl, Hh.out.sl (k := 1) rfl, Hh.out.below⟩
set_option maxRecDepth 100000 in
set_option maxHeartbeats 2000000 in
theorem ralt_any (S M : List Int) (L : Int) (aS aM : Option Addr) (cS cM : Nat) (w : World) (hv : vldB S M L = true) (_ : IntsAt w aS S) (hM : IntsAt w aM M) :
    Calls Try.prog 40 #[.agg #[.slice aS S.length cS, .slice aM M.length cM, .int .i64 L]] w fun e w' => e = .returned (.bool (altTo M (4 * S.length))) ∧ Below w.heap.size w w' := by
  have hs := vldB_shape hv
  have hfw := hs.few
  have hml := hs.len
  have HMt : Hid (∀ x, x < M.length → ∃ p : Nat, nth M x = (p : Int) ∧ mt M x = p ∧ p < 256) := Lib.hid fun x hx => by
    have := hs.range x (by omega)
    have := hs.mt_lt (x := x) (by omega)
    exact ⟨mt M x, by unfold mt; omega, rfl, by omega⟩
  have H0 := Lib.hid ((HH.start w).alloc #[.slice aS S.length cS, .slice aM M.length cM, .int .i64 L] 24 rfl rfl)
  have HM := Lib.hid hM
  have hM256 : M.length ≤ 256 := by omega
  rw [← hml]
  have Hfl : Hid (∀ i, i < M.length → altTo M (i + 1) = false → altTo M M.length = false) := Lib.hid fun i hi h => by
    unfold altTo at h ⊢
    rw [List.all_eq_false] at h ⊢
    obtain ⟨x, hx, g⟩ := h
    exact ⟨x, List.mem_range.2 (by have := List.mem_range.1 hx; omega), g⟩
  clear hM hv hs hml
  go_enter Try.func40, Try.ntmps40
  go_wp2_with fail
  go_loopg [3] M.length (fun g v wr => ∃ i : Nat, i ≤ M.length ∧ g = M.length - i ∧ v = .int .i64 i ∧ altTo M i = true ∧ HH w wr [(w.heap.size, rowO 24 [.slice aS S.length cS, .slice aM M.length cM, .int .i64 L])] [])
  case atStart => exact ⟨0, Nat.zero_le _, rfl, rfl, rfl, H0.out⟩
  case round =>
    obtain ⟨i, hi, rfl, rfl, ha, hh⟩ := hrel
    have Hh := Lib.hid hh
    have Ha := Lib.hid ha
    clear hh H0 ha
    have k1 := Hh.out.cell (k := 0) (i := 1) rfl rfl
    by_cases hil : i < M.length
    · obtain ⟨p, hp, hpm, hp2⟩ := HMt.out i hil
      obtain ⟨bM, oM, rfl, _, hcM⟩ := (HM.out.later Hh.out.below).open (by omega)
      have m1 := hcM i hil
      rw [hp] at m1
      have Hsu := Lib.hid (altTo_succ M i)
      rw [hpm, Ha.out, Bool.true_and] at Hsu
      have HF := Lib.hid (Hfl.out i hil)
      clear hcM hp hpm
      by_cases hpar : i % 2 = p % 2
      · have e1 : ((i : Int).tmod 2 == (p : Int).tmod 2) = true := by rw [beq_iff_eq, Int.tmod_eq_emod_of_nonneg (by omega), Int.tmod_eq_emod_of_nonneg (by omega)]; omega
        have e2 : ((i : Int) % 2 == (p : Int) % 2) = true := by rw [beq_iff_eq]; omega
        have e3 : decide ((i : Int) % 2 = (p : Int) % 2) = true := decide_eq_true (by omega)
        have e4 : (i : Int) % 2 = (p : Int) % 2 := by omega
        have Hr : Hid (altTo M M.length = false) := Lib.hid (HF.out (by rw [Hsu.out]; exact decide_eq_false (fun h => h hpar)))
        clear HF Hsu hpar
        go_wp2_with fail
        go_ret
        exact ⟨ret_bool Hr.out.symm, Hh.out.below⟩
      · have e1 : ((i : Int).tmod 2 == (p : Int).tmod 2) = false := by rw [beq_eq_false_iff_ne, Int.tmod_eq_emod_of_nonneg (by omega), Int.tmod_eq_emod_of_nonneg (by omega)]; omega
        have e2 : ((i : Int) % 2 == (p : Int) % 2) = false := by rw [beq_eq_false_iff_ne]; omega
        have e3 : decide ((i : Int) % 2 = (p : Int) % 2) = false := decide_eq_false (by omega)
        have e4 : ¬ (i : Int) % 2 = (p : Int) % 2 := by omega
        have Hr : Hid (altTo M (i + 1) = true) := Lib.hid (by rw [Hsu.out]; exact decide_eq_true hpar)
        clear HF Hsu hpar
        go_wp2_with fail
        go_roundg (M.length - (i + 1))
        case measure => omega
        case rel => exact ⟨i + 1, by omega, rfl, by go_num, Hr.out, Hh.out⟩
    · obtain rfl : i = M.length := by omega
      go_wp2_with fail
      go_ret
      exact ⟨ret_bool Ha.out.symm, Hh.out.below⟩
end Go.Proofs.Ytmjoijfafachhaa
