/- The reference's IsCut, Cuts, Nugatory, Alternating. -/
import Derived.Test.YtmjoijfafachhaaRFacW
import Derived.Test.YtmjoijfafachhaaQuietA
import Derived.BigQuiet
namespace Go.Proofs.Ytmjoijfafachhaa
open Go Go.RowKit
theorem rcutB {S M : List Int} {L : Int} (hv : vldB S M L = true) {x y : Nat} (hx : x < 4 * S.length) (hy : y < 4 * S.length) : cutB S (rfcL M S.length) M x y = cutB S (leftL M S.length) M x y := by
  have hs := vldB_shape hv
  unfold cutB
  rw [rfc_left hs.mates2 hx hy, rfc_left hs.mates2 (hs.mt_lt hx) (hs.mt_lt hy)]
theorem cutRow_congr {S F G M : List Int} {x N : Nat} (h : ∀ y, y < N → cutB S F M x y = cutB S G M x y) : cutRow S F M x N = cutRow S G M x N := by
  unfold cutRow
  congr 1
  refine List.filter_congr fun y hy => ?_
  rw [h y (List.mem_range.1 hy)]
theorem cutTo_congr {S F G M : List Int} {N : Nat} (h : ∀ x y, x < N → y < N → cutB S F M x y = cutB S G M x y) : ∀ k, k ≤ N → cutTo S F M N k = cutTo S G M N k := fun k => by
  induction k with
  | zero => intro _; rfl
  | succ k ih =>
    intro hk
    show cutTo S F M N k ++ cutRow S F M k N = cutTo S G M N k ++ cutRow S G M k N
    rw [ih (by omega), cutRow_congr fun y hy => h k y (by omega) hy]
theorem rcutsL {S M : List Int} {L : Int} (hv : vldB S M L = true) : cutTo S (rfcL M S.length) M (4 * S.length) (4 * S.length) = cutsL S M :=
  cutTo_congr (fun _ _ hx hy => rcutB hv hx hy) _ (Nat.le_refl _)
/-- What the reference asks at a crossing. -/
def rnugB (F : List Int) (c : Nat) : Bool := nth F (4 * c) == nth F (4 * c + 2) || nth F (4 * c + 1) == nth F (4 * c + 3) || nth F (4 * c) == nth F (4 * c + 1) || nth F (4 * c + 1) == nth F (4 * c + 2) || nth F (4 * c + 2) == nth F (4 * c + 3) || nth F (4 * c + 3) == nth F (4 * c)
theorem rnugB_eq {S M : List Int} {L : Int} (hv : vldB S M L = true) {c : Nat} (hc : c < S.length) : rnugB (rfcL M S.length) c = nugB (leftL M S.length) c := by
  have hs := vldB_shape hv
  have e := fun (i j : Nat) (hi : i < 4) (hj : j < 4) => rfc_left hs.mates2 (x := 4 * c + i) (y := 4 * c + j) (by omega) (by omega)
  have e02 := e 0 2 (by omega) (by omega)
  have e13 := e 1 3 (by omega) (by omega)
  have e01 := e 0 1 (by omega) (by omega)
  have e12 := e 1 2 (by omega) (by omega)
  have e23 := e 2 3 (by omega) (by omega)
  have e30 := e 3 0 (by omega) (by omega)
  simp only [Nat.add_zero] at e02 e01 e30
  unfold rnugB
  rw [e02, e13, e01, e12, e23, e30, Bool.eq_iff_iff, nugB_iff]
  simp only [Bool.or_eq_true, beq_iff_eq, or_assoc]
def rnugTo (F : List Int) (k : Nat) : List Nat := (List.range k).filter (rnugB F)
theorem rnugTo_yes {F : List Int} {k : Nat} (h : rnugB F k = true) : rnugTo F (k + 1) = rnugTo F k ++ [k] := by
  unfold rnugTo; rw [List.range_succ, List.filter_append]; simp [h]
theorem rnugTo_no {F : List Int} {k : Nat} (h : rnugB F k = false) : rnugTo F (k + 1) = rnugTo F k := by
  unfold rnugTo; rw [List.range_succ, List.filter_append]; simp [h]
theorem rnugTo_len (F : List Int) (k : Nat) : (rnugTo F k).length ≤ k := by
  unfold rnugTo
  have := List.length_filter_le (rnugB F) (List.range k)
  rwa [List.length_range] at this
theorem rnugL {S M : List Int} {L : Int} (hv : vldB S M L = true) : rnugTo (rfcL M S.length) S.length = nugL S M := by
  unfold rnugTo nugL nugTo
  exact List.filter_congr fun c hc => rnugB_eq hv (List.mem_range.1 hc)
set_option maxRecDepth 100000 in
set_option maxHeartbeats 8000000 in
theorem iscut_any (S M : List Int) (L : Int) (aS aM : Option Addr) (cS cM : Nat) (x y : Nat) (w : World) (hv : vldB S M L = true) (hx : x < 4 * S.length) (hy : y < 4 * S.length) (_ : IntsAt w aS S) (hM : IntsAt w aM M) :
    Calls Try.prog 23 #[.agg #[.slice aS S.length cS, .slice aM M.length cM, .int .i64 L], .int .i64 (x : Int), .int .i64 (y : Int)] w fun e w' => e = .returned (.bool (decide (x ≠ y) && (nth (leftL M S.length) x == nth (leftL M S.length) y) && (nth (leftL M S.length) (mt M x) == nth (leftL M S.length) (mt M y)))) ∧ Below w.heap.size w w' := by
  have hs := vldB_shape hv
  have hfw := hs.few
  have hml := hs.len
  have HF : Hid (∀ W', Below w.heap.size w W' → Calls Try.prog 62 #[.slice aM M.length cM] W' fun e w' => ∃ a c, e = .returned (.slice a M.length c) ∧ Own w' W'.heap.size 3 a c (ints (rfcL M S.length)) ∧ Below W'.heap.size W' w') := Lib.hid fun W' h => by
    have g := rfaces7_any M S.length aM cM W' hfw hs.mates2 hs.len (hM.later h)
    rw [← hs.len] at g; exact g
  have HMt : Hid (∀ x, x < M.length → ∃ p : Nat, p < M.length ∧ nth M x = (p : Int) ∧ mt M x = p) := Lib.hid fun x hx => by
    have := hs.range x (by omega)
    have h2 := hs.mt_lt (x := x) (by omega)
    exact ⟨mt M x, by omega, by unfold mt; omega, rfl⟩
  have HM := Lib.hid hM
  have hFl : (rfcL M S.length).length = M.length := by rw [hs.len]; exact rfcTo_len _ _ _
  have hN : M.length ≤ 256 := by omega
  rw [← rfc_left hs.mates2 hx hy, ← rfc_left hs.mates2 (hs.mt_lt hx) (hs.mt_lt hy)]
  rw [← hml] at hx hy
  obtain ⟨p, hp, hpv, hpm⟩ := HMt.out x hx
  obtain ⟨q, hq, hqv, hqm⟩ := HMt.out y hy
  rw [hpm, hqm]
  obtain ⟨bM, oM, rfl, _, hcM⟩ := hM.open (by omega)
  have H0 := Lib.hid ((HH.start w).alloc #[.slice aS S.length cS, .slice (some ⟨bM, oM, none⟩) M.length cM, .int .i64 L] 24 rfl rfl)
  generalize rfcL M S.length = F at *
  clear hs hml hM hv hcM hpm hqm HMt
  generalize S.length = n at *
  obtain ⟨N, hNe⟩ : ∃ N, N = M.length := ⟨_, rfl⟩
  have hNe2 := Lib.hid hNe
  rw [← hNe] at hx hy hp hq hFl hN HF H0 ⊢
  have hx0 : x < M.length := by omega
  have hy0 : y < M.length := by omega
  clear hNe
  have k1 := H0.out.cell (k := 0) (i := 1) rfl rfl
  go_enter Try.func23, Try.ntmps23
  go_wp2_with fail
  clear k1
  refine (HF.out _ H0.out.below).mono ?_
  rintro e w1 ⟨aF, cF, rfl, ho, hb⟩
  have H1 := Lib.hid (H0.out.addSl hb ho)
  clear hb ho H0 HF
  obtain ⟨bF, oF, rfl, _, _, _, _⟩ := (H1.out.sl (k := 0) rfl).open (by show 0 < (ints F).length; rw [ints_length]; omega)
  have HKS : Hid (∀ (W' : World) (z : List SlO), HH w W' [(w.heap.size, rowO 24 [.slice aS n cS, .slice (some ⟨bM, oM, none⟩) N cM, .int .i64 L])] (⟨some ⟨bF, oF, none⟩, cF, 3, ints F⟩ :: z) → W'.cell? ⟨w.heap.size, 0, none⟩ = some (.slice aS n cS) ∧ W'.cell? ⟨w.heap.size, 1, none⟩ = some (.slice (some ⟨bM, oM, none⟩) N cM) ∧ W'.cell? ⟨w.heap.size, 2, none⟩ = some (.int .i64 L) ∧ W'.cell? ⟨bM, oM + x, none⟩ = some (.int .i64 (p : Int)) ∧ W'.cell? ⟨bM, oM + y, none⟩ = some (.int .i64 (q : Int)) ∧ W'.cell? ⟨bF, oF + x, none⟩ = some (.int .i64 (nth F x)) ∧ W'.cell? ⟨bF, oF + y, none⟩ = some (.int .i64 (nth F y)) ∧ W'.cell? ⟨bF, oF + p, none⟩ = some (.int .i64 (nth F p)) ∧ W'.cell? ⟨bF, oF + q, none⟩ = some (.int .i64 (nth F q))) := Lib.hid fun W' z h => by
    obtain ⟨b9, o9, e9, _, _, hc9, _⟩ := (h.sl (k := 0) rfl).open (by show 0 < (ints F).length; rw [ints_length]; omega)
    cases e9
    obtain ⟨b8, o8, e8, _, hc8⟩ := (HM.out.later h.below).open (by omega)
    cases e8
    have m1 := hc8 x (by omega)
    have m2 := hc8 y (by omega)
    rw [hpv] at m1
    rw [hqv] at m2
    exact ⟨h.cell (k := 0) (i := 0) rfl rfl, h.cell (k := 0) (i := 1) rfl rfl, h.cell (k := 0) (i := 2) rfl rfl, m1, m2, hc9 _ _ (ints_get F x (by omega)), hc9 _ _ (ints_get F y (by omega)), hc9 _ _ (ints_get F p (by omega)), hc9 _ _ (ints_get F q (by omega))⟩
  clear hpv hqv
  obtain ⟨fx, hfx⟩ : ∃ u, u = nth F x := ⟨_, rfl⟩
  obtain ⟨fy, hfy⟩ : ∃ u, u = nth F y := ⟨_, rfl⟩
  obtain ⟨fp, hfp⟩ : ∃ u, u = nth F p := ⟨_, rfl⟩
  obtain ⟨fq, hfq⟩ : ∃ u, u = nth F q := ⟨_, rfl⟩
  rw [← hfx, ← hfy, ← hfp, ← hfq] at HKS
  have Hf := Lib.hid (And.intro (And.intro hfx hfy) (And.intro hfp hfq))
  clear hfx hfy hfp hfq
  by_cases exy : x = y
  · have e1 : ((x : Int) != (y : Int)) = false := by rw [exy]; simp
    have Hxy := Lib.hid exy
    clear exy
    go_wp2_with fail
    refine wp_region_class (fun W => HH w W [(w.heap.size, rowO 24 [.slice aS n cS, .slice (some ⟨bM, oM, none⟩) N cM, .int .i64 L])] [⟨some ⟨bF, oF, none⟩, cF, 3, ints F⟩]) (by kernel_rfl) (by kernel_rfl) H1.out.drew ?_
    refine no_implicit_lambda% (wpQuiet_move (.tmp 1) (.int .i64 (x : Int)) rfl rfl (by kernel_rfl) ?_)
    simp only [Act.put, List.setIfInBounds_toArray, List.set_cons_succ, List.set_cons_zero]
    refine no_implicit_lambda% (wpQuiet_move (.tmp 2) (.int .i64 (y : Int)) rfl rfl (by kernel_rfl) ?_)
    simp only [Act.put, List.setIfInBounds_toArray, List.set_cons_succ, List.set_cons_zero]
    refine no_implicit_lambda% (wpQuiet_val (.bool false) rfl (fun W' hW' => ?_) ?_)
    · obtain ⟨i1, i2, i3, i4, i5, i6, i7, i8, i9⟩ := HKS.out W' _ hW'
      go_simp
    simp only [Act.put, List.setIfInBounds_toArray, List.set_cons_succ, List.set_cons_zero]
    refine no_implicit_lambda% (wpQuiet_move (.tmp 13) (.bool false) rfl rfl (by kernel_rfl) ?_)
    simp only [Act.put, List.setIfInBounds_toArray, List.set_cons_succ, List.set_cons_zero]
    go_big_quiet_skip
    go_big_quiet_skip
    go_big_quiet_skip
    go_big_quiet_skip
    go_big_quiet_skip
    go_big_quiet_skip
    go_big_quiet_skip
    go_big_quiet_skip
    go_big_quiet_skip
    refine no_implicit_lambda% (wpQuiet_val (.bool false) rfl (fun W' hW' => ?_) ?_)
    · obtain ⟨i1, i2, i3, i4, i5, i6, i7, i8, i9⟩ := HKS.out W' _ hW'
      go_simp
    simp only [Act.put, List.setIfInBounds_toArray, List.set_cons_succ, List.set_cons_zero]
    refine no_implicit_lambda% (wpQuiet_move (.tmp 24) (.bool false) rfl rfl (by kernel_rfl) ?_)
    simp only [Act.put, List.setIfInBounds_toArray, List.set_cons_succ, List.set_cons_zero]
    go_big_quiet_skip
    go_big_quiet_skip
    go_big_quiet_skip
    go_big_quiet_skip
    go_big_quiet_skip
    go_big_quiet_skip
    go_big_quiet_skip
    go_big_quiet_skip
    go_big_quiet_skip
    go_big_quiet_skip
    go_big_quiet_skip
    go_big_quiet_skip
    go_big_quiet_skip
    go_big_quiet_skip
    go_big_quiet_skip
    go_big_quiet_skip
    go_big_quiet_skip
    refine no_implicit_lambda% (wpQuiet_val (.bool false) rfl (fun W' hW' => ?_) ?_)
    · obtain ⟨i1, i2, i3, i4, i5, i6, i7, i8, i9⟩ := HKS.out W' _ hW'
      go_simp
    simp only [Act.put, List.setIfInBounds_toArray, List.set_cons_succ, List.set_cons_zero]
    refine no_implicit_lambda% (wpQuiet_assign (.tmp 43) (.bool false) rfl rfl (by kernel_rfl) ?_)
    simp only [Act.put, List.setIfInBounds_toArray, List.set_cons_succ, List.set_cons_zero]
    refine no_implicit_lambda% (wpQuiet_end ?_)
    intro w5 hw5
    have Hx := Lib.hid hw5
    clear hw5
    go_wp2_with fail
    go_ret
    exact ⟨ret_bool (by rw [← Hf.out.1.1, ← Hf.out.1.2, ← Hf.out.2.1, ← Hf.out.2.2]; simp [Hxy.out]), Hx.out.below⟩
  · have e1 : ((x : Int) != (y : Int)) = true := by simp; omega
    have Hxy := Lib.hid exy
    clear exy
    cases t1 : (fx == fy)
    · go_wp2_with fail
      refine wp_region_class (fun W => HH w W [(w.heap.size, rowO 24 [.slice aS n cS, .slice (some ⟨bM, oM, none⟩) N cM, .int .i64 L])] [⟨some ⟨bF, oF, none⟩, cF, 3, ints F⟩]) (by kernel_rfl) (by kernel_rfl) H1.out.drew ?_
      refine no_implicit_lambda% (wpQuiet_move (.tmp 1) (.int .i64 (x : Int)) rfl rfl (by kernel_rfl) ?_)
      simp only [Act.put, List.setIfInBounds_toArray, List.set_cons_succ, List.set_cons_zero]
      refine no_implicit_lambda% (wpQuiet_move (.tmp 2) (.int .i64 (y : Int)) rfl rfl (by kernel_rfl) ?_)
      simp only [Act.put, List.setIfInBounds_toArray, List.set_cons_succ, List.set_cons_zero]
      refine no_implicit_lambda% (wpQuiet_val (.bool true) rfl (fun W' hW' => ?_) ?_)
      · obtain ⟨i1, i2, i3, i4, i5, i6, i7, i8, i9⟩ := HKS.out W' _ hW'
        go_simp
      simp only [Act.put, List.setIfInBounds_toArray, List.set_cons_succ, List.set_cons_zero]
      refine no_implicit_lambda% (wpQuiet_move (.tmp 13) (.bool true) rfl rfl (by kernel_rfl) ?_)
      simp only [Act.put, List.setIfInBounds_toArray, List.set_cons_succ, List.set_cons_zero]
      refine no_implicit_lambda% (wpQuietW_move (.tmp 7) (.slice (some ⟨bF, oF, none⟩) N cF) (by kernel_rfl) rfl (by kernel_rfl) ?_)
      simp only [Act.put, List.setIfInBounds_toArray, List.set_cons_succ, List.set_cons_zero]
      refine no_implicit_lambda% (wpQuietW_move (.tmp 1) (.int .i64 (x : Int)) (by kernel_rfl) rfl (by kernel_rfl) ?_)
      simp only [Act.put, List.setIfInBounds_toArray, List.set_cons_succ, List.set_cons_zero]
      refine no_implicit_lambda% (wpQuietW_val (.pointer (some ⟨bF, oF + x, none⟩)) (by kernel_rfl) (fun W' hW' => ?_) ?_)
      · obtain ⟨i1, i2, i3, i4, i5, i6, i7, i8, i9⟩ := HKS.out W' _ hW'
        go_simp
      simp only [Act.put, List.setIfInBounds_toArray, List.set_cons_succ, List.set_cons_zero]
      refine no_implicit_lambda% (wpQuietW_val (.int .i64 (fx)) (by kernel_rfl) (fun W' hW' => ?_) ?_)
      · obtain ⟨i1, i2, i3, i4, i5, i6, i7, i8, i9⟩ := HKS.out W' _ hW'
        go_simp
      simp only [Act.put, List.setIfInBounds_toArray, List.set_cons_succ, List.set_cons_zero]
      refine no_implicit_lambda% (wpQuietW_move (.tmp 7) (.slice (some ⟨bF, oF, none⟩) N cF) (by kernel_rfl) rfl (by kernel_rfl) ?_)
      simp only [Act.put, List.setIfInBounds_toArray, List.set_cons_succ, List.set_cons_zero]
      refine no_implicit_lambda% (wpQuietW_move (.tmp 2) (.int .i64 (y : Int)) (by kernel_rfl) rfl (by kernel_rfl) ?_)
      simp only [Act.put, List.setIfInBounds_toArray, List.set_cons_succ, List.set_cons_zero]
      refine no_implicit_lambda% (wpQuietW_val (.pointer (some ⟨bF, oF + y, none⟩)) (by kernel_rfl) (fun W' hW' => ?_) ?_)
      · obtain ⟨i1, i2, i3, i4, i5, i6, i7, i8, i9⟩ := HKS.out W' _ hW'
        go_simp
      simp only [Act.put, List.setIfInBounds_toArray, List.set_cons_succ, List.set_cons_zero]
      refine no_implicit_lambda% (wpQuietW_val (.int .i64 (fy)) (by kernel_rfl) (fun W' hW' => ?_) ?_)
      · obtain ⟨i1, i2, i3, i4, i5, i6, i7, i8, i9⟩ := HKS.out W' _ hW'
        go_simp
      simp only [Act.put, List.setIfInBounds_toArray, List.set_cons_succ, List.set_cons_zero]
      refine no_implicit_lambda% (wpQuietW_val (.bool false) (by kernel_rfl) (fun W' hW' => ?_) ?_)
      · obtain ⟨i1, i2, i3, i4, i5, i6, i7, i8, i9⟩ := HKS.out W' _ hW'
        go_simp
      simp only [Act.put, List.setIfInBounds_toArray, List.set_cons_succ, List.set_cons_zero]
      refine no_implicit_lambda% (wpQuiet_val (.bool false) rfl (fun W' hW' => ?_) ?_)
      · obtain ⟨i1, i2, i3, i4, i5, i6, i7, i8, i9⟩ := HKS.out W' _ hW'
        go_simp
      simp only [Act.put, List.setIfInBounds_toArray, List.set_cons_succ, List.set_cons_zero]
      refine no_implicit_lambda% (wpQuiet_move (.tmp 24) (.bool false) rfl rfl (by kernel_rfl) ?_)
      simp only [Act.put, List.setIfInBounds_toArray, List.set_cons_succ, List.set_cons_zero]
      go_big_quiet_skip
      go_big_quiet_skip
      go_big_quiet_skip
      go_big_quiet_skip
      go_big_quiet_skip
      go_big_quiet_skip
      go_big_quiet_skip
      go_big_quiet_skip
      go_big_quiet_skip
      go_big_quiet_skip
      go_big_quiet_skip
      go_big_quiet_skip
      go_big_quiet_skip
      go_big_quiet_skip
      go_big_quiet_skip
      go_big_quiet_skip
      go_big_quiet_skip
      refine no_implicit_lambda% (wpQuiet_val (.bool false) rfl (fun W' hW' => ?_) ?_)
      · obtain ⟨i1, i2, i3, i4, i5, i6, i7, i8, i9⟩ := HKS.out W' _ hW'
        go_simp
      simp only [Act.put, List.setIfInBounds_toArray, List.set_cons_succ, List.set_cons_zero]
      refine no_implicit_lambda% (wpQuiet_assign (.tmp 43) (.bool false) rfl rfl (by kernel_rfl) ?_)
      simp only [Act.put, List.setIfInBounds_toArray, List.set_cons_succ, List.set_cons_zero]
      refine no_implicit_lambda% (wpQuiet_end ?_)
      intro w5 hw5
      have Hx := Lib.hid hw5
      clear hw5
      go_wp2_with fail
      go_ret
      exact ⟨ret_bool (by rw [← Hf.out.1.1, ← Hf.out.1.2, ← Hf.out.2.1, ← Hf.out.2.2]; simp [t1]), Hx.out.below⟩
    · cases t2 : (fp == fq)
      · have d1 : decide ((p : Int) < 0) = false := decide_eq_false (by omega)
        have d2 : decide ((q : Int) < 0) = false := decide_eq_false (by omega)
        go_wp2_with fail
        refine wp_region_class (fun W => HH w W [(w.heap.size, rowO 24 [.slice aS n cS, .slice (some ⟨bM, oM, none⟩) N cM, .int .i64 L])] [⟨some ⟨bF, oF, none⟩, cF, 3, ints F⟩]) (by kernel_rfl) (by kernel_rfl) H1.out.drew ?_
        refine no_implicit_lambda% (wpQuiet_move (.tmp 1) (.int .i64 (x : Int)) rfl rfl (by kernel_rfl) ?_)
        simp only [Act.put, List.setIfInBounds_toArray, List.set_cons_succ, List.set_cons_zero]
        refine no_implicit_lambda% (wpQuiet_move (.tmp 2) (.int .i64 (y : Int)) rfl rfl (by kernel_rfl) ?_)
        simp only [Act.put, List.setIfInBounds_toArray, List.set_cons_succ, List.set_cons_zero]
        refine no_implicit_lambda% (wpQuiet_val (.bool true) rfl (fun W' hW' => ?_) ?_)
        · obtain ⟨i1, i2, i3, i4, i5, i6, i7, i8, i9⟩ := HKS.out W' _ hW'
          go_simp
        simp only [Act.put, List.setIfInBounds_toArray, List.set_cons_succ, List.set_cons_zero]
        refine no_implicit_lambda% (wpQuiet_move (.tmp 13) (.bool true) rfl rfl (by kernel_rfl) ?_)
        simp only [Act.put, List.setIfInBounds_toArray, List.set_cons_succ, List.set_cons_zero]
        refine no_implicit_lambda% (wpQuietW_move (.tmp 7) (.slice (some ⟨bF, oF, none⟩) N cF) (by kernel_rfl) rfl (by kernel_rfl) ?_)
        simp only [Act.put, List.setIfInBounds_toArray, List.set_cons_succ, List.set_cons_zero]
        refine no_implicit_lambda% (wpQuietW_move (.tmp 1) (.int .i64 (x : Int)) (by kernel_rfl) rfl (by kernel_rfl) ?_)
        simp only [Act.put, List.setIfInBounds_toArray, List.set_cons_succ, List.set_cons_zero]
        refine no_implicit_lambda% (wpQuietW_val (.pointer (some ⟨bF, oF + x, none⟩)) (by kernel_rfl) (fun W' hW' => ?_) ?_)
        · obtain ⟨i1, i2, i3, i4, i5, i6, i7, i8, i9⟩ := HKS.out W' _ hW'
          go_simp
        simp only [Act.put, List.setIfInBounds_toArray, List.set_cons_succ, List.set_cons_zero]
        refine no_implicit_lambda% (wpQuietW_val (.int .i64 (fx)) (by kernel_rfl) (fun W' hW' => ?_) ?_)
        · obtain ⟨i1, i2, i3, i4, i5, i6, i7, i8, i9⟩ := HKS.out W' _ hW'
          go_simp
        simp only [Act.put, List.setIfInBounds_toArray, List.set_cons_succ, List.set_cons_zero]
        refine no_implicit_lambda% (wpQuietW_move (.tmp 7) (.slice (some ⟨bF, oF, none⟩) N cF) (by kernel_rfl) rfl (by kernel_rfl) ?_)
        simp only [Act.put, List.setIfInBounds_toArray, List.set_cons_succ, List.set_cons_zero]
        refine no_implicit_lambda% (wpQuietW_move (.tmp 2) (.int .i64 (y : Int)) (by kernel_rfl) rfl (by kernel_rfl) ?_)
        simp only [Act.put, List.setIfInBounds_toArray, List.set_cons_succ, List.set_cons_zero]
        refine no_implicit_lambda% (wpQuietW_val (.pointer (some ⟨bF, oF + y, none⟩)) (by kernel_rfl) (fun W' hW' => ?_) ?_)
        · obtain ⟨i1, i2, i3, i4, i5, i6, i7, i8, i9⟩ := HKS.out W' _ hW'
          go_simp
        simp only [Act.put, List.setIfInBounds_toArray, List.set_cons_succ, List.set_cons_zero]
        refine no_implicit_lambda% (wpQuietW_val (.int .i64 (fy)) (by kernel_rfl) (fun W' hW' => ?_) ?_)
        · obtain ⟨i1, i2, i3, i4, i5, i6, i7, i8, i9⟩ := HKS.out W' _ hW'
          go_simp
        simp only [Act.put, List.setIfInBounds_toArray, List.set_cons_succ, List.set_cons_zero]
        refine no_implicit_lambda% (wpQuietW_val (.bool true) (by kernel_rfl) (fun W' hW' => ?_) ?_)
        · obtain ⟨i1, i2, i3, i4, i5, i6, i7, i8, i9⟩ := HKS.out W' _ hW'
          go_simp
        simp only [Act.put, List.setIfInBounds_toArray, List.set_cons_succ, List.set_cons_zero]
        refine no_implicit_lambda% (wpQuiet_val (.bool true) rfl (fun W' hW' => ?_) ?_)
        · obtain ⟨i1, i2, i3, i4, i5, i6, i7, i8, i9⟩ := HKS.out W' _ hW'
          go_simp
        simp only [Act.put, List.setIfInBounds_toArray, List.set_cons_succ, List.set_cons_zero]
        refine no_implicit_lambda% (wpQuiet_move (.tmp 24) (.bool true) rfl rfl (by kernel_rfl) ?_)
        simp only [Act.put, List.setIfInBounds_toArray, List.set_cons_succ, List.set_cons_zero]
        refine no_implicit_lambda% (wpQuietW_move (.tmp 7) (.slice (some ⟨bF, oF, none⟩) N cF) (by kernel_rfl) rfl (by kernel_rfl) ?_)
        simp only [Act.put, List.setIfInBounds_toArray, List.set_cons_succ, List.set_cons_zero]
        refine no_implicit_lambda% (wpQuietW_val (.pointer (some ⟨w.heap.size, 1, none⟩)) (by kernel_rfl) (fun W' hW' => ?_) ?_)
        · obtain ⟨i1, i2, i3, i4, i5, i6, i7, i8, i9⟩ := HKS.out W' _ hW'
          go_simp
        simp only [Act.put, List.setIfInBounds_toArray, List.set_cons_succ, List.set_cons_zero]
        refine no_implicit_lambda% (wpQuietW_val (.slice (some ⟨bM, oM, none⟩) N cM) (by kernel_rfl) (fun W' hW' => ?_) ?_)
        · obtain ⟨i1, i2, i3, i4, i5, i6, i7, i8, i9⟩ := HKS.out W' _ hW'
          go_simp
        simp only [Act.put, List.setIfInBounds_toArray, List.set_cons_succ, List.set_cons_zero]
        refine no_implicit_lambda% (wpQuietW_move (.tmp 1) (.int .i64 (x : Int)) (by kernel_rfl) rfl (by kernel_rfl) ?_)
        simp only [Act.put, List.setIfInBounds_toArray, List.set_cons_succ, List.set_cons_zero]
        refine no_implicit_lambda% (wpQuietW_val (.pointer (some ⟨bM, oM + x, none⟩)) (by kernel_rfl) (fun W' hW' => ?_) ?_)
        · obtain ⟨i1, i2, i3, i4, i5, i6, i7, i8, i9⟩ := HKS.out W' _ hW'
          go_simp
        simp only [Act.put, List.setIfInBounds_toArray, List.set_cons_succ, List.set_cons_zero]
        refine no_implicit_lambda% (wpQuietW_val (.int .i64 (p : Int)) (by kernel_rfl) (fun W' hW' => ?_) ?_)
        · obtain ⟨i1, i2, i3, i4, i5, i6, i7, i8, i9⟩ := HKS.out W' _ hW'
          go_simp
        simp only [Act.put, List.setIfInBounds_toArray, List.set_cons_succ, List.set_cons_zero]
        refine no_implicit_lambda% (wpQuietW_val (.pointer (some ⟨bF, oF + p, none⟩)) (by kernel_rfl) (fun W' hW' => ?_) ?_)
        · obtain ⟨i1, i2, i3, i4, i5, i6, i7, i8, i9⟩ := HKS.out W' _ hW'
          go_simp
        simp only [Act.put, List.setIfInBounds_toArray, List.set_cons_succ, List.set_cons_zero]
        refine no_implicit_lambda% (wpQuietW_val (.int .i64 (fp)) (by kernel_rfl) (fun W' hW' => ?_) ?_)
        · obtain ⟨i1, i2, i3, i4, i5, i6, i7, i8, i9⟩ := HKS.out W' _ hW'
          go_simp
        simp only [Act.put, List.setIfInBounds_toArray, List.set_cons_succ, List.set_cons_zero]
        refine no_implicit_lambda% (wpQuietW_move (.tmp 7) (.slice (some ⟨bF, oF, none⟩) N cF) (by kernel_rfl) rfl (by kernel_rfl) ?_)
        simp only [Act.put, List.setIfInBounds_toArray, List.set_cons_succ, List.set_cons_zero]
        refine no_implicit_lambda% (wpQuietW_val (.pointer (some ⟨w.heap.size, 1, none⟩)) (by kernel_rfl) (fun W' hW' => ?_) ?_)
        · obtain ⟨i1, i2, i3, i4, i5, i6, i7, i8, i9⟩ := HKS.out W' _ hW'
          go_simp
        simp only [Act.put, List.setIfInBounds_toArray, List.set_cons_succ, List.set_cons_zero]
        refine no_implicit_lambda% (wpQuietW_val (.slice (some ⟨bM, oM, none⟩) N cM) (by kernel_rfl) (fun W' hW' => ?_) ?_)
        · obtain ⟨i1, i2, i3, i4, i5, i6, i7, i8, i9⟩ := HKS.out W' _ hW'
          go_simp
        simp only [Act.put, List.setIfInBounds_toArray, List.set_cons_succ, List.set_cons_zero]
        refine no_implicit_lambda% (wpQuietW_move (.tmp 2) (.int .i64 (y : Int)) (by kernel_rfl) rfl (by kernel_rfl) ?_)
        simp only [Act.put, List.setIfInBounds_toArray, List.set_cons_succ, List.set_cons_zero]
        refine no_implicit_lambda% (wpQuietW_val (.pointer (some ⟨bM, oM + y, none⟩)) (by kernel_rfl) (fun W' hW' => ?_) ?_)
        · obtain ⟨i1, i2, i3, i4, i5, i6, i7, i8, i9⟩ := HKS.out W' _ hW'
          go_simp
        simp only [Act.put, List.setIfInBounds_toArray, List.set_cons_succ, List.set_cons_zero]
        refine no_implicit_lambda% (wpQuietW_val (.int .i64 (q : Int)) (by kernel_rfl) (fun W' hW' => ?_) ?_)
        · obtain ⟨i1, i2, i3, i4, i5, i6, i7, i8, i9⟩ := HKS.out W' _ hW'
          go_simp
        simp only [Act.put, List.setIfInBounds_toArray, List.set_cons_succ, List.set_cons_zero]
        refine no_implicit_lambda% (wpQuietW_val (.pointer (some ⟨bF, oF + q, none⟩)) (by kernel_rfl) (fun W' hW' => ?_) ?_)
        · obtain ⟨i1, i2, i3, i4, i5, i6, i7, i8, i9⟩ := HKS.out W' _ hW'
          go_simp
        simp only [Act.put, List.setIfInBounds_toArray, List.set_cons_succ, List.set_cons_zero]
        refine no_implicit_lambda% (wpQuietW_val (.int .i64 (fq)) (by kernel_rfl) (fun W' hW' => ?_) ?_)
        · obtain ⟨i1, i2, i3, i4, i5, i6, i7, i8, i9⟩ := HKS.out W' _ hW'
          go_simp
        simp only [Act.put, List.setIfInBounds_toArray, List.set_cons_succ, List.set_cons_zero]
        refine no_implicit_lambda% (wpQuietW_val (.bool false) (by kernel_rfl) (fun W' hW' => ?_) ?_)
        · obtain ⟨i1, i2, i3, i4, i5, i6, i7, i8, i9⟩ := HKS.out W' _ hW'
          go_simp
        simp only [Act.put, List.setIfInBounds_toArray, List.set_cons_succ, List.set_cons_zero]
        refine no_implicit_lambda% (wpQuiet_val (.bool false) rfl (fun W' hW' => ?_) ?_)
        · obtain ⟨i1, i2, i3, i4, i5, i6, i7, i8, i9⟩ := HKS.out W' _ hW'
          go_simp
        simp only [Act.put, List.setIfInBounds_toArray, List.set_cons_succ, List.set_cons_zero]
        refine no_implicit_lambda% (wpQuiet_assign (.tmp 43) (.bool false) rfl rfl (by kernel_rfl) ?_)
        simp only [Act.put, List.setIfInBounds_toArray, List.set_cons_succ, List.set_cons_zero]
        refine no_implicit_lambda% (wpQuiet_end ?_)
        intro w5 hw5
        have Hx := Lib.hid hw5
        clear hw5
        go_wp2_with fail
        go_ret
        exact ⟨ret_bool (by rw [← Hf.out.1.1, ← Hf.out.1.2, ← Hf.out.2.1, ← Hf.out.2.2]; simp [t2]), Hx.out.below⟩
      · have d1 : decide ((p : Int) < 0) = false := decide_eq_false (by omega)
        have d2 : decide ((q : Int) < 0) = false := decide_eq_false (by omega)
        go_wp2_with fail
        refine wp_region_class (fun W => HH w W [(w.heap.size, rowO 24 [.slice aS n cS, .slice (some ⟨bM, oM, none⟩) N cM, .int .i64 L])] [⟨some ⟨bF, oF, none⟩, cF, 3, ints F⟩]) (by kernel_rfl) (by kernel_rfl) H1.out.drew ?_
        refine no_implicit_lambda% (wpQuiet_move (.tmp 1) (.int .i64 (x : Int)) rfl rfl (by kernel_rfl) ?_)
        simp only [Act.put, List.setIfInBounds_toArray, List.set_cons_succ, List.set_cons_zero]
        refine no_implicit_lambda% (wpQuiet_move (.tmp 2) (.int .i64 (y : Int)) rfl rfl (by kernel_rfl) ?_)
        simp only [Act.put, List.setIfInBounds_toArray, List.set_cons_succ, List.set_cons_zero]
        refine no_implicit_lambda% (wpQuiet_val (.bool true) rfl (fun W' hW' => ?_) ?_)
        · obtain ⟨i1, i2, i3, i4, i5, i6, i7, i8, i9⟩ := HKS.out W' _ hW'
          go_simp
        simp only [Act.put, List.setIfInBounds_toArray, List.set_cons_succ, List.set_cons_zero]
        refine no_implicit_lambda% (wpQuiet_move (.tmp 13) (.bool true) rfl rfl (by kernel_rfl) ?_)
        simp only [Act.put, List.setIfInBounds_toArray, List.set_cons_succ, List.set_cons_zero]
        refine no_implicit_lambda% (wpQuietW_move (.tmp 7) (.slice (some ⟨bF, oF, none⟩) N cF) (by kernel_rfl) rfl (by kernel_rfl) ?_)
        simp only [Act.put, List.setIfInBounds_toArray, List.set_cons_succ, List.set_cons_zero]
        refine no_implicit_lambda% (wpQuietW_move (.tmp 1) (.int .i64 (x : Int)) (by kernel_rfl) rfl (by kernel_rfl) ?_)
        simp only [Act.put, List.setIfInBounds_toArray, List.set_cons_succ, List.set_cons_zero]
        refine no_implicit_lambda% (wpQuietW_val (.pointer (some ⟨bF, oF + x, none⟩)) (by kernel_rfl) (fun W' hW' => ?_) ?_)
        · obtain ⟨i1, i2, i3, i4, i5, i6, i7, i8, i9⟩ := HKS.out W' _ hW'
          go_simp
        simp only [Act.put, List.setIfInBounds_toArray, List.set_cons_succ, List.set_cons_zero]
        refine no_implicit_lambda% (wpQuietW_val (.int .i64 (fx)) (by kernel_rfl) (fun W' hW' => ?_) ?_)
        · obtain ⟨i1, i2, i3, i4, i5, i6, i7, i8, i9⟩ := HKS.out W' _ hW'
          go_simp
        simp only [Act.put, List.setIfInBounds_toArray, List.set_cons_succ, List.set_cons_zero]
        refine no_implicit_lambda% (wpQuietW_move (.tmp 7) (.slice (some ⟨bF, oF, none⟩) N cF) (by kernel_rfl) rfl (by kernel_rfl) ?_)
        simp only [Act.put, List.setIfInBounds_toArray, List.set_cons_succ, List.set_cons_zero]
        refine no_implicit_lambda% (wpQuietW_move (.tmp 2) (.int .i64 (y : Int)) (by kernel_rfl) rfl (by kernel_rfl) ?_)
        simp only [Act.put, List.setIfInBounds_toArray, List.set_cons_succ, List.set_cons_zero]
        refine no_implicit_lambda% (wpQuietW_val (.pointer (some ⟨bF, oF + y, none⟩)) (by kernel_rfl) (fun W' hW' => ?_) ?_)
        · obtain ⟨i1, i2, i3, i4, i5, i6, i7, i8, i9⟩ := HKS.out W' _ hW'
          go_simp
        simp only [Act.put, List.setIfInBounds_toArray, List.set_cons_succ, List.set_cons_zero]
        refine no_implicit_lambda% (wpQuietW_val (.int .i64 (fy)) (by kernel_rfl) (fun W' hW' => ?_) ?_)
        · obtain ⟨i1, i2, i3, i4, i5, i6, i7, i8, i9⟩ := HKS.out W' _ hW'
          go_simp
        simp only [Act.put, List.setIfInBounds_toArray, List.set_cons_succ, List.set_cons_zero]
        refine no_implicit_lambda% (wpQuietW_val (.bool true) (by kernel_rfl) (fun W' hW' => ?_) ?_)
        · obtain ⟨i1, i2, i3, i4, i5, i6, i7, i8, i9⟩ := HKS.out W' _ hW'
          go_simp
        simp only [Act.put, List.setIfInBounds_toArray, List.set_cons_succ, List.set_cons_zero]
        refine no_implicit_lambda% (wpQuiet_val (.bool true) rfl (fun W' hW' => ?_) ?_)
        · obtain ⟨i1, i2, i3, i4, i5, i6, i7, i8, i9⟩ := HKS.out W' _ hW'
          go_simp
        simp only [Act.put, List.setIfInBounds_toArray, List.set_cons_succ, List.set_cons_zero]
        refine no_implicit_lambda% (wpQuiet_move (.tmp 24) (.bool true) rfl rfl (by kernel_rfl) ?_)
        simp only [Act.put, List.setIfInBounds_toArray, List.set_cons_succ, List.set_cons_zero]
        refine no_implicit_lambda% (wpQuietW_move (.tmp 7) (.slice (some ⟨bF, oF, none⟩) N cF) (by kernel_rfl) rfl (by kernel_rfl) ?_)
        simp only [Act.put, List.setIfInBounds_toArray, List.set_cons_succ, List.set_cons_zero]
        refine no_implicit_lambda% (wpQuietW_val (.pointer (some ⟨w.heap.size, 1, none⟩)) (by kernel_rfl) (fun W' hW' => ?_) ?_)
        · obtain ⟨i1, i2, i3, i4, i5, i6, i7, i8, i9⟩ := HKS.out W' _ hW'
          go_simp
        simp only [Act.put, List.setIfInBounds_toArray, List.set_cons_succ, List.set_cons_zero]
        refine no_implicit_lambda% (wpQuietW_val (.slice (some ⟨bM, oM, none⟩) N cM) (by kernel_rfl) (fun W' hW' => ?_) ?_)
        · obtain ⟨i1, i2, i3, i4, i5, i6, i7, i8, i9⟩ := HKS.out W' _ hW'
          go_simp
        simp only [Act.put, List.setIfInBounds_toArray, List.set_cons_succ, List.set_cons_zero]
        refine no_implicit_lambda% (wpQuietW_move (.tmp 1) (.int .i64 (x : Int)) (by kernel_rfl) rfl (by kernel_rfl) ?_)
        simp only [Act.put, List.setIfInBounds_toArray, List.set_cons_succ, List.set_cons_zero]
        refine no_implicit_lambda% (wpQuietW_val (.pointer (some ⟨bM, oM + x, none⟩)) (by kernel_rfl) (fun W' hW' => ?_) ?_)
        · obtain ⟨i1, i2, i3, i4, i5, i6, i7, i8, i9⟩ := HKS.out W' _ hW'
          go_simp
        simp only [Act.put, List.setIfInBounds_toArray, List.set_cons_succ, List.set_cons_zero]
        refine no_implicit_lambda% (wpQuietW_val (.int .i64 (p : Int)) (by kernel_rfl) (fun W' hW' => ?_) ?_)
        · obtain ⟨i1, i2, i3, i4, i5, i6, i7, i8, i9⟩ := HKS.out W' _ hW'
          go_simp
        simp only [Act.put, List.setIfInBounds_toArray, List.set_cons_succ, List.set_cons_zero]
        refine no_implicit_lambda% (wpQuietW_val (.pointer (some ⟨bF, oF + p, none⟩)) (by kernel_rfl) (fun W' hW' => ?_) ?_)
        · obtain ⟨i1, i2, i3, i4, i5, i6, i7, i8, i9⟩ := HKS.out W' _ hW'
          go_simp
        simp only [Act.put, List.setIfInBounds_toArray, List.set_cons_succ, List.set_cons_zero]
        refine no_implicit_lambda% (wpQuietW_val (.int .i64 (fp)) (by kernel_rfl) (fun W' hW' => ?_) ?_)
        · obtain ⟨i1, i2, i3, i4, i5, i6, i7, i8, i9⟩ := HKS.out W' _ hW'
          go_simp
        simp only [Act.put, List.setIfInBounds_toArray, List.set_cons_succ, List.set_cons_zero]
        refine no_implicit_lambda% (wpQuietW_move (.tmp 7) (.slice (some ⟨bF, oF, none⟩) N cF) (by kernel_rfl) rfl (by kernel_rfl) ?_)
        simp only [Act.put, List.setIfInBounds_toArray, List.set_cons_succ, List.set_cons_zero]
        refine no_implicit_lambda% (wpQuietW_val (.pointer (some ⟨w.heap.size, 1, none⟩)) (by kernel_rfl) (fun W' hW' => ?_) ?_)
        · obtain ⟨i1, i2, i3, i4, i5, i6, i7, i8, i9⟩ := HKS.out W' _ hW'
          go_simp
        simp only [Act.put, List.setIfInBounds_toArray, List.set_cons_succ, List.set_cons_zero]
        refine no_implicit_lambda% (wpQuietW_val (.slice (some ⟨bM, oM, none⟩) N cM) (by kernel_rfl) (fun W' hW' => ?_) ?_)
        · obtain ⟨i1, i2, i3, i4, i5, i6, i7, i8, i9⟩ := HKS.out W' _ hW'
          go_simp
        simp only [Act.put, List.setIfInBounds_toArray, List.set_cons_succ, List.set_cons_zero]
        refine no_implicit_lambda% (wpQuietW_move (.tmp 2) (.int .i64 (y : Int)) (by kernel_rfl) rfl (by kernel_rfl) ?_)
        simp only [Act.put, List.setIfInBounds_toArray, List.set_cons_succ, List.set_cons_zero]
        refine no_implicit_lambda% (wpQuietW_val (.pointer (some ⟨bM, oM + y, none⟩)) (by kernel_rfl) (fun W' hW' => ?_) ?_)
        · obtain ⟨i1, i2, i3, i4, i5, i6, i7, i8, i9⟩ := HKS.out W' _ hW'
          go_simp
        simp only [Act.put, List.setIfInBounds_toArray, List.set_cons_succ, List.set_cons_zero]
        refine no_implicit_lambda% (wpQuietW_val (.int .i64 (q : Int)) (by kernel_rfl) (fun W' hW' => ?_) ?_)
        · obtain ⟨i1, i2, i3, i4, i5, i6, i7, i8, i9⟩ := HKS.out W' _ hW'
          go_simp
        simp only [Act.put, List.setIfInBounds_toArray, List.set_cons_succ, List.set_cons_zero]
        refine no_implicit_lambda% (wpQuietW_val (.pointer (some ⟨bF, oF + q, none⟩)) (by kernel_rfl) (fun W' hW' => ?_) ?_)
        · obtain ⟨i1, i2, i3, i4, i5, i6, i7, i8, i9⟩ := HKS.out W' _ hW'
          go_simp
        simp only [Act.put, List.setIfInBounds_toArray, List.set_cons_succ, List.set_cons_zero]
        refine no_implicit_lambda% (wpQuietW_val (.int .i64 (fq)) (by kernel_rfl) (fun W' hW' => ?_) ?_)
        · obtain ⟨i1, i2, i3, i4, i5, i6, i7, i8, i9⟩ := HKS.out W' _ hW'
          go_simp
        simp only [Act.put, List.setIfInBounds_toArray, List.set_cons_succ, List.set_cons_zero]
        refine no_implicit_lambda% (wpQuietW_val (.bool true) (by kernel_rfl) (fun W' hW' => ?_) ?_)
        · obtain ⟨i1, i2, i3, i4, i5, i6, i7, i8, i9⟩ := HKS.out W' _ hW'
          go_simp
        simp only [Act.put, List.setIfInBounds_toArray, List.set_cons_succ, List.set_cons_zero]
        refine no_implicit_lambda% (wpQuiet_val (.bool true) rfl (fun W' hW' => ?_) ?_)
        · obtain ⟨i1, i2, i3, i4, i5, i6, i7, i8, i9⟩ := HKS.out W' _ hW'
          go_simp
        simp only [Act.put, List.setIfInBounds_toArray, List.set_cons_succ, List.set_cons_zero]
        refine no_implicit_lambda% (wpQuiet_assign (.tmp 43) (.bool true) rfl rfl (by kernel_rfl) ?_)
        simp only [Act.put, List.setIfInBounds_toArray, List.set_cons_succ, List.set_cons_zero]
        refine no_implicit_lambda% (wpQuiet_end ?_)
        intro w5 hw5
        have Hx := Lib.hid hw5
        clear hw5
        go_wp2_with fail
        go_ret
        exact ⟨ret_bool (by rw [← Hf.out.1.1, ← Hf.out.1.2, ← Hf.out.2.1, ← Hf.out.2.2]; simp [t1, t2, Hxy.out]), Hx.out.below⟩
set_option maxRecDepth 100000 in
set_option maxHeartbeats 8000000 in
theorem rcuts_any (S M : List Int) (L : Int) (aS aM : Option Addr) (cS cM : Nat) (w : World) (hv : vldB S M L = true) (hS : IntsAt w aS S) (hM : IntsAt w aM M) :
    Calls Try.prog 42 #[.agg #[.slice aS S.length cS, .slice aM M.length cM, .int .i64 L]] w fun e w' => ∃ A C, e = .returned (.slice A (cutsL S M).length C) ∧ (cutsL S M).length ≤ C ∧ Own w' w.heap.size 45 A (C * 2) (prs (cutsL S M)) ∧ Below w.heap.size w w' := by
  have hs := vldB_shape hv
  have hfw := hs.few
  have hml := hs.len
  have HF : Hid (∀ W', Below w.heap.size w W' → Calls Try.prog 62 #[.slice aM M.length cM] W' fun e w' => ∃ a c, e = .returned (.slice a M.length c) ∧ Own w' W'.heap.size 3 a c (ints (rfcL M S.length)) ∧ Below W'.heap.size W' w') := Lib.hid fun W' h => by
    have g := rfaces7_any M S.length aM cM W' hfw hs.mates2 hs.len (hM.later h)
    rw [← hs.len] at g; exact g
  have HMt : Hid (∀ x, x < M.length → ∃ p : Nat, p < M.length ∧ nth M x = (p : Int) ∧ mt M x = p) := Lib.hid fun x hx => by
    have := hs.range x (by omega)
    have h2 := hs.mt_lt (x := x) (by omega)
    exact ⟨mt M x, by omega, by unfold mt; omega, rfl⟩
  have HM := Lib.hid hM
  have hFl : (rfcL M S.length).length = M.length := by rw [hs.len]; exact rfcTo_len _ _ _
  have hN : M.length ≤ 256 := by omega
  have HO : Hid (∀ (h : Nat) W', h < M.length → Below w.heap.size w W' → Calls Try.prog 49 #[.slice aS S.length cS, .int .i64 (h : Int)] W' fun e w' => e = .returned (.bool (outB S h)) ∧ w' = W') := Lib.hid fun h W' hh hb => (rout_any S aS cS h W' (by omega) (by omega) (hS.later hb)).mono fun e w' ⟨he, hw⟩ => ⟨he, hw.symm⟩
  rw [← rcutsL hv]
  rw [← hml]
  obtain ⟨i0, hi0, hz0, hz1, hz2⟩ := info_parts Try.info45
  have Hzc : Hid ((Value.agg #[.int .i64 0, .int .i64 0]).cells.size = 2) := Lib.hid rfl
  have H0 := Lib.hid ((HH.start w).alloc #[.slice aS S.length cS, .slice aM M.length cM, .int .i64 L] 24 rfl rfl)
  clear hs hv hS hM hml
  generalize rfcL M S.length = F at *
  have Hbd : Hid (∀ x, (cutTo S F M M.length x).length ≤ x * M.length) := Lib.hid (cutTo_len S F M M.length)
  have Hrw : Hid (∀ x y, (cutRow S F M x y).length ≤ y) := Lib.hid (cutRow_len S F M)
  obtain ⟨N, hNe⟩ : ∃ N, N = M.length := ⟨_, rfl⟩
  have HNe := Lib.hid hNe
  rw [← hNe] at HF HO HMt hFl H0 Hbd hN ⊢
  clear hNe
  generalize hn : S.length = n at *
  clear hn
  have k1 := H0.out.cell (k := 0) (i := 1) rfl rfl
  go_enter Try.func42, Try.ntmps42
  go_wp2_with fail
  clear k1
  refine (HF.out _ H0.out.below).mono ?_
  rintro e w2 ⟨aF, cF, rfl, ho, hb⟩
  have H2 := Lib.hid ((H0.out.addSl hb ho).addNil 45)
  clear hb ho H0 HF
  go_wp2_with fail
  go_loopg [5, 4] N (fun g v s4 wr => ∃ (x : Nat) (A : Option Addr) (C : Nat) (l : List (Nat × Nat)), x ≤ N ∧ g = N - x ∧ v = .int .i64 x ∧ s4 = .slice A l.length C ∧ l.length ≤ C ∧ l = cutTo S F M N x ∧ HH w wr [(w.heap.size, rowO 24 [.slice aS n cS, .slice aM N cM, .int .i64 L])] [⟨aF, cF, 3, ints F⟩, ⟨A, C * 2, 45, prs l⟩])
  case atStart => exact ⟨0, none, 0, [], Nat.zero_le _, rfl, rfl, rfl, Nat.le_refl _, rfl, H2.out⟩
  case round =>
    obtain ⟨x, A, C, l, hx, rfl, rfl, rfl, hlC, hl, hh⟩ := hrel
    have Hh := Lib.hid hh
    have Hl := Lib.hid hl
    clear hh hl H2
    obtain ⟨ll, hll⟩ : ∃ ll, ll = l.length := ⟨_, rfl⟩
    rw [← hll] at hlC ⊢
    have Hll := Lib.hid hll
    have hlb : ll ≤ x * N := by rw [hll, Hl.out]; exact Hbd.out x
    clear hll
    have k1 := Hh.out.cell (k := 0) (i := 1) rfl rfl
    by_cases hxN : x < N
    · have hxx : x * N ≤ 256 * 256 := Nat.mul_le_mul (by omega) hN
      have Hrs : Hid (cutTo S F M N x ++ cutRow S F M x (x + 1) = l) := Lib.hid (by rw [cutRow_start, List.append_nil]; exact Hl.out.symm)
      have Hre : Hid (cutTo S F M N (x + 1) = cutTo S F M N x ++ cutRow S F M x N) := Lib.hid rfl
      obtain ⟨T0, hT0⟩ : ∃ T0, T0 = cutTo S F M N x := ⟨_, rfl⟩
      have hT0l : T0.length ≤ 256 * 256 := by rw [hT0]; have := Hbd.out x; omega
      rw [← hT0] at Hrs Hre
      clear hT0
      go_wp2_with fail
      clear k1
      go_loopg [6, 4] (N - (x + 1)) (fun g v s4 wr => ∃ (y : Nat) (A : Option Addr) (C : Nat) (l : List (Nat × Nat)), x < y ∧ y ≤ N ∧ g = N - y ∧ v = .int .i64 y ∧ s4 = .slice A l.length C ∧ l.length ≤ C ∧ T0 ++ cutRow S F M x y = l ∧ HH w wr [(w.heap.size, rowO 24 [.slice aS n cS, .slice aM N cM, .int .i64 L])] [⟨aF, cF, 3, ints F⟩, ⟨A, C * 2, 45, prs l⟩])
      case atStart => exact ⟨x + 1, A, C, l, by omega, by omega, rfl, by go_num, by rw [Hll.out], by rw [← Hll.out]; exact hlC, Hrs.out, Hh.out⟩
      case round =>
        obtain ⟨y, A, C, l, hxy, hy, rfl, rfl, rfl, hlC, hl, hh⟩ := hrel
        replace Hh := Lib.hid hh
        replace Hl := Lib.hid hl.symm
        clear hh hl
        obtain ⟨ll, hll⟩ : ∃ ll, ll = l.length := ⟨_, rfl⟩
        rw [← hll] at hlC ⊢
        replace Hll := Lib.hid hll
        have hlb : ll ≤ 256 * 256 + 256 := by
          have := Hrw.out x y
          rw [hll, Hl.out, List.length_append]; omega
        have Hvl : Hid ((prs l).length = ll * 2) := Lib.hid (by rw [prs_len, hll])
        clear hll
        have k1 := Hh.out.cell (k := 0) (i := 1) rfl rfl
        by_cases hyN : y < N
        · obtain ⟨p, hp, hpv, hpm⟩ := HMt.out x hxN
          obtain ⟨q, hq, hqv, hqm⟩ := HMt.out y hyN
          obtain ⟨bM, oM, rfl, _, hcM⟩ := (HM.out.later Hh.out.below).open (by rw [← HNe.out]; omega)
          clear hcM
          obtain ⟨bF, oF, rfl, _, _, _, _⟩ := (Hh.out.sl (k := 0) rfl).open (by show 0 < (ints F).length; rw [ints_length]; omega)
          have hcb : cutB S F M x y = (outB S x && outB S y && (nth F x == nth F y) && (nth F p == nth F q)) := by unfold cutB; rw [hpm, hqm]
          have HYes := Lib.hid (cutRow_yes (S := S) (F := F) (M := M) hxy)
          have HNo := Lib.hid (cutRow_no (S := S) (F := F) (M := M) (x := x) (y := y))
          rw [hcb] at HYes HNo
          clear hcb
          have HOx : Hid (∀ W', HH w W' [(w.heap.size, rowO 24 [.slice aS n cS, .slice (some ⟨bM, oM, none⟩) N cM, .int .i64 L])] [⟨some ⟨bF, oF, none⟩, cF, 3, ints F⟩, ⟨A, C * 2, 45, prs l⟩] → Calls Try.prog 49 #[.slice aS n cS, .int .i64 (x : Int)] W' fun e w' => e = .returned (.bool (outB S x)) ∧ HH w w' [(w.heap.size, rowO 24 [.slice aS n cS, .slice (some ⟨bM, oM, none⟩) N cM, .int .i64 L])] [⟨some ⟨bF, oF, none⟩, cF, 3, ints F⟩, ⟨A, C * 2, 45, prs l⟩]) := Lib.hid fun W' h => (HO.out x W' hxN h.below).mono fun e w' ⟨he, hw⟩ => ⟨he, by rw [hw]; exact h⟩
          have HOy : Hid (∀ W', HH w W' [(w.heap.size, rowO 24 [.slice aS n cS, .slice (some ⟨bM, oM, none⟩) N cM, .int .i64 L])] [⟨some ⟨bF, oF, none⟩, cF, 3, ints F⟩, ⟨A, C * 2, 45, prs l⟩] → Calls Try.prog 49 #[.slice aS n cS, .int .i64 (y : Int)] W' fun e w' => e = .returned (.bool (outB S y)) ∧ HH w w' [(w.heap.size, rowO 24 [.slice aS n cS, .slice (some ⟨bM, oM, none⟩) N cM, .int .i64 L])] [⟨some ⟨bF, oF, none⟩, cF, 3, ints F⟩, ⟨A, C * 2, 45, prs l⟩]) := Lib.hid fun W' h => (HO.out y W' hyN h.below).mono fun e w' ⟨he, hw⟩ => ⟨he, by rw [hw]; exact h⟩
          have HKS : Hid (∀ (W' : World) (z : List SlO), HH w W' [(w.heap.size, rowO 24 [.slice aS n cS, .slice (some ⟨bM, oM, none⟩) N cM, .int .i64 L])] (⟨some ⟨bF, oF, none⟩, cF, 3, ints F⟩ :: z) → W'.cell? ⟨w.heap.size, 0, none⟩ = some (.slice aS n cS) ∧ W'.cell? ⟨w.heap.size, 1, none⟩ = some (.slice (some ⟨bM, oM, none⟩) N cM) ∧ W'.cell? ⟨w.heap.size, 2, none⟩ = some (.int .i64 L) ∧ W'.cell? ⟨bM, oM + x, none⟩ = some (.int .i64 (p : Int)) ∧ W'.cell? ⟨bM, oM + y, none⟩ = some (.int .i64 (q : Int)) ∧ W'.cell? ⟨bF, oF + x, none⟩ = some (.int .i64 (nth F x)) ∧ W'.cell? ⟨bF, oF + y, none⟩ = some (.int .i64 (nth F y)) ∧ W'.cell? ⟨bF, oF + p, none⟩ = some (.int .i64 (nth F p)) ∧ W'.cell? ⟨bF, oF + q, none⟩ = some (.int .i64 (nth F q))) := Lib.hid fun W' z h => by
            obtain ⟨b9, o9, e9, _, _, hc9, _⟩ := (h.sl (k := 0) rfl).open (by show 0 < (ints F).length; rw [ints_length]; omega)
            cases e9
            obtain ⟨b8, o8, e8, _, hc8⟩ := (HM.out.later h.below).open (by rw [← HNe.out]; omega)
            cases e8
            have m1 := hc8 x (by rw [← HNe.out]; exact hxN)
            have m2 := hc8 y (by rw [← HNe.out]; exact hyN)
            rw [hpv] at m1
            rw [hqv] at m2
            exact ⟨h.cell (k := 0) (i := 0) rfl rfl, h.cell (k := 0) (i := 1) rfl rfl, h.cell (k := 0) (i := 2) rfl rfl, m1, m2, hc9 _ _ (ints_get F x (by omega)), hc9 _ _ (ints_get F y (by omega)), hc9 _ _ (ints_get F p (by omega)), hc9 _ _ (ints_get F q (by omega))⟩
          have Hum : Hid (([.int .i64 (x : Int), .int .i64 (y : Int)] : List Value).length = 1 * 2) := Lib.hid rfl
          have Hu1 : Hid (∀ u ∈ ([.int .i64 (x : Int), .int .i64 (y : Int)] : List Value), u.oneCell' = true) := Lib.hid (by
            intro u hu
            simp only [List.mem_cons, List.not_mem_nil, or_false] at hu
            rcases hu with rfl | rfl <;> rfl)
          clear hpv hqv hpm hqm
          generalize nth F x = fx at *
          generalize nth F y = fy at *
          generalize nth F p = fp at *
          generalize nth F q = fq at *
          generalize outB S x = ox at *
          generalize outB S y = oy at *
          have d1 : decide ((p : Int) < 0) = false := decide_eq_false (by omega)
          have d2 : decide ((q : Int) < 0) = false := decide_eq_false (by omega)
          go_wp2_with fail
          clear k1
          cases ox
          · have HNo := Lib.hid (HNo.out rfl)
            refine wp_region_class (fun W => HH w W [(w.heap.size, rowO 24 [.slice aS n cS, .slice (some ⟨bM, oM, none⟩) N cM, .int .i64 L])] [⟨some ⟨bF, oF, none⟩, cF, 3, ints F⟩, ⟨A, C * 2, 45, prs l⟩]) (by kernel_rfl) (by kernel_rfl) Hh.out.drew ?_
            refine no_implicit_lambda% (wpQuiet_val (.pointer (some ⟨w.heap.size, 0, none⟩)) rfl (fun W' hW' => ?_) ?_)
            · obtain ⟨i1, i2, i3, i4, i5, i6, i7, i8, i9⟩ := HKS.out W' _ hW'
              go_simp
            simp only [Act.put, List.setIfInBounds_toArray, List.set_cons_succ, List.set_cons_zero]
            refine no_implicit_lambda% (wpQuiet_val (.slice aS n cS) rfl (fun W' hW' => ?_) ?_)
            · obtain ⟨i1, i2, i3, i4, i5, i6, i7, i8, i9⟩ := HKS.out W' _ hW'
              go_simp
            simp only [Act.put, List.setIfInBounds_toArray, List.set_cons_succ, List.set_cons_zero]
            refine no_implicit_lambda% (wpQuiet_move (.tmp 5) (.int .i64 (x : Int)) rfl rfl (by kernel_rfl) ?_)
            simp only [Act.put, List.setIfInBounds_toArray, List.set_cons_succ, List.set_cons_zero]
            refine no_implicit_lambda% (wpQuiet_call (.bool false) 49 _ _ [.slice aS n cS, .int .i64 (x : Int)] rfl rfl (by kernel_rfl) Try.call49 (fun W' h => HOx.out W' h) ?_)
            simp only [Act.put, List.setIfInBounds_toArray, List.set_cons_succ, List.set_cons_zero]
            refine no_implicit_lambda% (wpQuiet_move (.tmp 29) (.bool false) rfl rfl (by kernel_rfl) ?_)
            simp only [Act.put, List.setIfInBounds_toArray, List.set_cons_succ, List.set_cons_zero]
            go_big_quiet_skip
            go_big_quiet_skip
            go_big_quiet_skip
            go_big_quiet_skip
            refine no_implicit_lambda% (wpQuiet_val (.bool false) rfl (fun W' hW' => ?_) ?_)
            · obtain ⟨i1, i2, i3, i4, i5, i6, i7, i8, i9⟩ := HKS.out W' _ hW'
              go_simp
            simp only [Act.put, List.setIfInBounds_toArray, List.set_cons_succ, List.set_cons_zero]
            refine no_implicit_lambda% (wpQuiet_move (.tmp 35) (.bool false) rfl rfl (by kernel_rfl) ?_)
            simp only [Act.put, List.setIfInBounds_toArray, List.set_cons_succ, List.set_cons_zero]
            go_big_quiet_skip
            go_big_quiet_skip
            go_big_quiet_skip
            go_big_quiet_skip
            go_big_quiet_skip
            go_big_quiet_skip
            go_big_quiet_skip
            go_big_quiet_skip
            go_big_quiet_skip
            refine no_implicit_lambda% (wpQuiet_val (.bool false) rfl (fun W' hW' => ?_) ?_)
            · obtain ⟨i1, i2, i3, i4, i5, i6, i7, i8, i9⟩ := HKS.out W' _ hW'
              go_simp
            simp only [Act.put, List.setIfInBounds_toArray, List.set_cons_succ, List.set_cons_zero]
            refine no_implicit_lambda% (wpQuiet_move (.tmp 46) (.bool false) rfl rfl (by kernel_rfl) ?_)
            simp only [Act.put, List.setIfInBounds_toArray, List.set_cons_succ, List.set_cons_zero]
            go_big_quiet_skip
            go_big_quiet_skip
            go_big_quiet_skip
            go_big_quiet_skip
            go_big_quiet_skip
            go_big_quiet_skip
            go_big_quiet_skip
            go_big_quiet_skip
            go_big_quiet_skip
            go_big_quiet_skip
            go_big_quiet_skip
            go_big_quiet_skip
            go_big_quiet_skip
            go_big_quiet_skip
            go_big_quiet_skip
            go_big_quiet_skip
            go_big_quiet_skip
            refine no_implicit_lambda% (wpQuiet_val (.bool false) rfl (fun W' hW' => ?_) ?_)
            · obtain ⟨i1, i2, i3, i4, i5, i6, i7, i8, i9⟩ := HKS.out W' _ hW'
              go_simp
            simp only [Act.put, List.setIfInBounds_toArray, List.set_cons_succ, List.set_cons_zero]
            refine no_implicit_lambda% (wpQuiet_end ?_)
            intro w5 hw5
            have Hx := Lib.hid hw5
            clear hw5
            go_wp2_with fail
            go_roundg (N - (y + 1))
            case measure => omega
            case rel => exact ⟨y + 1, A, C, l, by omega, by omega, rfl, by go_num, by rw [Hll.out], by rw [← Hll.out]; exact hlC, by rw [HNo.out]; exact Hl.out.symm, Hx.out⟩
          · cases oy
            · have HNo := Lib.hid (HNo.out rfl)
              refine wp_region_class (fun W => HH w W [(w.heap.size, rowO 24 [.slice aS n cS, .slice (some ⟨bM, oM, none⟩) N cM, .int .i64 L])] [⟨some ⟨bF, oF, none⟩, cF, 3, ints F⟩, ⟨A, C * 2, 45, prs l⟩]) (by kernel_rfl) (by kernel_rfl) Hh.out.drew ?_
              refine no_implicit_lambda% (wpQuiet_val (.pointer (some ⟨w.heap.size, 0, none⟩)) rfl (fun W' hW' => ?_) ?_)
              · obtain ⟨i1, i2, i3, i4, i5, i6, i7, i8, i9⟩ := HKS.out W' _ hW'
                go_simp
              simp only [Act.put, List.setIfInBounds_toArray, List.set_cons_succ, List.set_cons_zero]
              refine no_implicit_lambda% (wpQuiet_val (.slice aS n cS) rfl (fun W' hW' => ?_) ?_)
              · obtain ⟨i1, i2, i3, i4, i5, i6, i7, i8, i9⟩ := HKS.out W' _ hW'
                go_simp
              simp only [Act.put, List.setIfInBounds_toArray, List.set_cons_succ, List.set_cons_zero]
              refine no_implicit_lambda% (wpQuiet_move (.tmp 5) (.int .i64 (x : Int)) rfl rfl (by kernel_rfl) ?_)
              simp only [Act.put, List.setIfInBounds_toArray, List.set_cons_succ, List.set_cons_zero]
              refine no_implicit_lambda% (wpQuiet_call (.bool true) 49 _ _ [.slice aS n cS, .int .i64 (x : Int)] rfl rfl (by kernel_rfl) Try.call49 (fun W' h => HOx.out W' h) ?_)
              simp only [Act.put, List.setIfInBounds_toArray, List.set_cons_succ, List.set_cons_zero]
              refine no_implicit_lambda% (wpQuiet_move (.tmp 29) (.bool true) rfl rfl (by kernel_rfl) ?_)
              simp only [Act.put, List.setIfInBounds_toArray, List.set_cons_succ, List.set_cons_zero]
              refine no_implicit_lambda% (wpQuietW_val (.pointer (some ⟨w.heap.size, 0, none⟩)) (by kernel_rfl) (fun W' hW' => ?_) ?_)
              · obtain ⟨i1, i2, i3, i4, i5, i6, i7, i8, i9⟩ := HKS.out W' _ hW'
                go_simp
              simp only [Act.put, List.setIfInBounds_toArray, List.set_cons_succ, List.set_cons_zero]
              refine no_implicit_lambda% (wpQuietW_val (.slice aS n cS) (by kernel_rfl) (fun W' hW' => ?_) ?_)
              · obtain ⟨i1, i2, i3, i4, i5, i6, i7, i8, i9⟩ := HKS.out W' _ hW'
                go_simp
              simp only [Act.put, List.setIfInBounds_toArray, List.set_cons_succ, List.set_cons_zero]
              refine no_implicit_lambda% (wpQuietW_move (.tmp 6) (.int .i64 (y : Int)) (by kernel_rfl) rfl (by kernel_rfl) ?_)
              simp only [Act.put, List.setIfInBounds_toArray, List.set_cons_succ, List.set_cons_zero]
              refine no_implicit_lambda% (wpQuietW_call (.bool false) 49 _ _ [.slice aS n cS, .int .i64 (y : Int)] (by kernel_rfl) rfl (by kernel_rfl) Try.call49 (fun W' h => HOy.out W' h) ?_)
              simp only [Act.put, List.setIfInBounds_toArray, List.set_cons_succ, List.set_cons_zero]
              refine no_implicit_lambda% (wpQuiet_val (.bool false) rfl (fun W' hW' => ?_) ?_)
              · obtain ⟨i1, i2, i3, i4, i5, i6, i7, i8, i9⟩ := HKS.out W' _ hW'
                go_simp
              simp only [Act.put, List.setIfInBounds_toArray, List.set_cons_succ, List.set_cons_zero]
              refine no_implicit_lambda% (wpQuiet_move (.tmp 35) (.bool false) rfl rfl (by kernel_rfl) ?_)
              simp only [Act.put, List.setIfInBounds_toArray, List.set_cons_succ, List.set_cons_zero]
              go_big_quiet_skip
              go_big_quiet_skip
              go_big_quiet_skip
              go_big_quiet_skip
              go_big_quiet_skip
              go_big_quiet_skip
              go_big_quiet_skip
              go_big_quiet_skip
              go_big_quiet_skip
              refine no_implicit_lambda% (wpQuiet_val (.bool false) rfl (fun W' hW' => ?_) ?_)
              · obtain ⟨i1, i2, i3, i4, i5, i6, i7, i8, i9⟩ := HKS.out W' _ hW'
                go_simp
              simp only [Act.put, List.setIfInBounds_toArray, List.set_cons_succ, List.set_cons_zero]
              refine no_implicit_lambda% (wpQuiet_move (.tmp 46) (.bool false) rfl rfl (by kernel_rfl) ?_)
              simp only [Act.put, List.setIfInBounds_toArray, List.set_cons_succ, List.set_cons_zero]
              go_big_quiet_skip
              go_big_quiet_skip
              go_big_quiet_skip
              go_big_quiet_skip
              go_big_quiet_skip
              go_big_quiet_skip
              go_big_quiet_skip
              go_big_quiet_skip
              go_big_quiet_skip
              go_big_quiet_skip
              go_big_quiet_skip
              go_big_quiet_skip
              go_big_quiet_skip
              go_big_quiet_skip
              go_big_quiet_skip
              go_big_quiet_skip
              go_big_quiet_skip
              refine no_implicit_lambda% (wpQuiet_val (.bool false) rfl (fun W' hW' => ?_) ?_)
              · obtain ⟨i1, i2, i3, i4, i5, i6, i7, i8, i9⟩ := HKS.out W' _ hW'
                go_simp
              simp only [Act.put, List.setIfInBounds_toArray, List.set_cons_succ, List.set_cons_zero]
              refine no_implicit_lambda% (wpQuiet_end ?_)
              intro w5 hw5
              have Hx := Lib.hid hw5
              clear hw5
              go_wp2_with fail
              go_roundg (N - (y + 1))
              case measure => omega
              case rel => exact ⟨y + 1, A, C, l, by omega, by omega, rfl, by go_num, by rw [Hll.out], by rw [← Hll.out]; exact hlC, by rw [HNo.out]; exact Hl.out.symm, Hx.out⟩
            · cases t1 : (fx == fy)
              · have HNo := Lib.hid (HNo.out (by simp [t1]))
                refine wp_region_class (fun W => HH w W [(w.heap.size, rowO 24 [.slice aS n cS, .slice (some ⟨bM, oM, none⟩) N cM, .int .i64 L])] [⟨some ⟨bF, oF, none⟩, cF, 3, ints F⟩, ⟨A, C * 2, 45, prs l⟩]) (by kernel_rfl) (by kernel_rfl) Hh.out.drew ?_
                refine no_implicit_lambda% (wpQuiet_val (.pointer (some ⟨w.heap.size, 0, none⟩)) rfl (fun W' hW' => ?_) ?_)
                · obtain ⟨i1, i2, i3, i4, i5, i6, i7, i8, i9⟩ := HKS.out W' _ hW'
                  go_simp
                simp only [Act.put, List.setIfInBounds_toArray, List.set_cons_succ, List.set_cons_zero]
                refine no_implicit_lambda% (wpQuiet_val (.slice aS n cS) rfl (fun W' hW' => ?_) ?_)
                · obtain ⟨i1, i2, i3, i4, i5, i6, i7, i8, i9⟩ := HKS.out W' _ hW'
                  go_simp
                simp only [Act.put, List.setIfInBounds_toArray, List.set_cons_succ, List.set_cons_zero]
                refine no_implicit_lambda% (wpQuiet_move (.tmp 5) (.int .i64 (x : Int)) rfl rfl (by kernel_rfl) ?_)
                simp only [Act.put, List.setIfInBounds_toArray, List.set_cons_succ, List.set_cons_zero]
                refine no_implicit_lambda% (wpQuiet_call (.bool true) 49 _ _ [.slice aS n cS, .int .i64 (x : Int)] rfl rfl (by kernel_rfl) Try.call49 (fun W' h => HOx.out W' h) ?_)
                simp only [Act.put, List.setIfInBounds_toArray, List.set_cons_succ, List.set_cons_zero]
                refine no_implicit_lambda% (wpQuiet_move (.tmp 29) (.bool true) rfl rfl (by kernel_rfl) ?_)
                simp only [Act.put, List.setIfInBounds_toArray, List.set_cons_succ, List.set_cons_zero]
                refine no_implicit_lambda% (wpQuietW_val (.pointer (some ⟨w.heap.size, 0, none⟩)) (by kernel_rfl) (fun W' hW' => ?_) ?_)
                · obtain ⟨i1, i2, i3, i4, i5, i6, i7, i8, i9⟩ := HKS.out W' _ hW'
                  go_simp
                simp only [Act.put, List.setIfInBounds_toArray, List.set_cons_succ, List.set_cons_zero]
                refine no_implicit_lambda% (wpQuietW_val (.slice aS n cS) (by kernel_rfl) (fun W' hW' => ?_) ?_)
                · obtain ⟨i1, i2, i3, i4, i5, i6, i7, i8, i9⟩ := HKS.out W' _ hW'
                  go_simp
                simp only [Act.put, List.setIfInBounds_toArray, List.set_cons_succ, List.set_cons_zero]
                refine no_implicit_lambda% (wpQuietW_move (.tmp 6) (.int .i64 (y : Int)) (by kernel_rfl) rfl (by kernel_rfl) ?_)
                simp only [Act.put, List.setIfInBounds_toArray, List.set_cons_succ, List.set_cons_zero]
                refine no_implicit_lambda% (wpQuietW_call (.bool true) 49 _ _ [.slice aS n cS, .int .i64 (y : Int)] (by kernel_rfl) rfl (by kernel_rfl) Try.call49 (fun W' h => HOy.out W' h) ?_)
                simp only [Act.put, List.setIfInBounds_toArray, List.set_cons_succ, List.set_cons_zero]
                refine no_implicit_lambda% (wpQuiet_val (.bool true) rfl (fun W' hW' => ?_) ?_)
                · obtain ⟨i1, i2, i3, i4, i5, i6, i7, i8, i9⟩ := HKS.out W' _ hW'
                  go_simp
                simp only [Act.put, List.setIfInBounds_toArray, List.set_cons_succ, List.set_cons_zero]
                refine no_implicit_lambda% (wpQuiet_move (.tmp 35) (.bool true) rfl rfl (by kernel_rfl) ?_)
                simp only [Act.put, List.setIfInBounds_toArray, List.set_cons_succ, List.set_cons_zero]
                refine no_implicit_lambda% (wpQuietW_move (.tmp 3) (.slice (some ⟨bF, oF, none⟩) N cF) (by kernel_rfl) rfl (by kernel_rfl) ?_)
                simp only [Act.put, List.setIfInBounds_toArray, List.set_cons_succ, List.set_cons_zero]
                refine no_implicit_lambda% (wpQuietW_move (.tmp 5) (.int .i64 (x : Int)) (by kernel_rfl) rfl (by kernel_rfl) ?_)
                simp only [Act.put, List.setIfInBounds_toArray, List.set_cons_succ, List.set_cons_zero]
                refine no_implicit_lambda% (wpQuietW_val (.pointer (some ⟨bF, oF + x, none⟩)) (by kernel_rfl) (fun W' hW' => ?_) ?_)
                · obtain ⟨i1, i2, i3, i4, i5, i6, i7, i8, i9⟩ := HKS.out W' _ hW'
                  go_simp
                simp only [Act.put, List.setIfInBounds_toArray, List.set_cons_succ, List.set_cons_zero]
                refine no_implicit_lambda% (wpQuietW_val (.int .i64 (fx)) (by kernel_rfl) (fun W' hW' => ?_) ?_)
                · obtain ⟨i1, i2, i3, i4, i5, i6, i7, i8, i9⟩ := HKS.out W' _ hW'
                  go_simp
                simp only [Act.put, List.setIfInBounds_toArray, List.set_cons_succ, List.set_cons_zero]
                refine no_implicit_lambda% (wpQuietW_move (.tmp 3) (.slice (some ⟨bF, oF, none⟩) N cF) (by kernel_rfl) rfl (by kernel_rfl) ?_)
                simp only [Act.put, List.setIfInBounds_toArray, List.set_cons_succ, List.set_cons_zero]
                refine no_implicit_lambda% (wpQuietW_move (.tmp 6) (.int .i64 (y : Int)) (by kernel_rfl) rfl (by kernel_rfl) ?_)
                simp only [Act.put, List.setIfInBounds_toArray, List.set_cons_succ, List.set_cons_zero]
                refine no_implicit_lambda% (wpQuietW_val (.pointer (some ⟨bF, oF + y, none⟩)) (by kernel_rfl) (fun W' hW' => ?_) ?_)
                · obtain ⟨i1, i2, i3, i4, i5, i6, i7, i8, i9⟩ := HKS.out W' _ hW'
                  go_simp
                simp only [Act.put, List.setIfInBounds_toArray, List.set_cons_succ, List.set_cons_zero]
                refine no_implicit_lambda% (wpQuietW_val (.int .i64 (fy)) (by kernel_rfl) (fun W' hW' => ?_) ?_)
                · obtain ⟨i1, i2, i3, i4, i5, i6, i7, i8, i9⟩ := HKS.out W' _ hW'
                  go_simp
                simp only [Act.put, List.setIfInBounds_toArray, List.set_cons_succ, List.set_cons_zero]
                refine no_implicit_lambda% (wpQuietW_val (.bool false) (by kernel_rfl) (fun W' hW' => ?_) ?_)
                · obtain ⟨i1, i2, i3, i4, i5, i6, i7, i8, i9⟩ := HKS.out W' _ hW'
                  go_simp
                simp only [Act.put, List.setIfInBounds_toArray, List.set_cons_succ, List.set_cons_zero]
                refine no_implicit_lambda% (wpQuiet_val (.bool false) rfl (fun W' hW' => ?_) ?_)
                · obtain ⟨i1, i2, i3, i4, i5, i6, i7, i8, i9⟩ := HKS.out W' _ hW'
                  go_simp
                simp only [Act.put, List.setIfInBounds_toArray, List.set_cons_succ, List.set_cons_zero]
                refine no_implicit_lambda% (wpQuiet_move (.tmp 46) (.bool false) rfl rfl (by kernel_rfl) ?_)
                simp only [Act.put, List.setIfInBounds_toArray, List.set_cons_succ, List.set_cons_zero]
                go_big_quiet_skip
                go_big_quiet_skip
                go_big_quiet_skip
                go_big_quiet_skip
                go_big_quiet_skip
                go_big_quiet_skip
                go_big_quiet_skip
                go_big_quiet_skip
                go_big_quiet_skip
                go_big_quiet_skip
                go_big_quiet_skip
                go_big_quiet_skip
                go_big_quiet_skip
                go_big_quiet_skip
                go_big_quiet_skip
                go_big_quiet_skip
                go_big_quiet_skip
                refine no_implicit_lambda% (wpQuiet_val (.bool false) rfl (fun W' hW' => ?_) ?_)
                · obtain ⟨i1, i2, i3, i4, i5, i6, i7, i8, i9⟩ := HKS.out W' _ hW'
                  go_simp
                simp only [Act.put, List.setIfInBounds_toArray, List.set_cons_succ, List.set_cons_zero]
                refine no_implicit_lambda% (wpQuiet_end ?_)
                intro w5 hw5
                have Hx := Lib.hid hw5
                clear hw5
                go_wp2_with fail
                go_roundg (N - (y + 1))
                case measure => omega
                case rel => exact ⟨y + 1, A, C, l, by omega, by omega, rfl, by go_num, by rw [Hll.out], by rw [← Hll.out]; exact hlC, by rw [HNo.out]; exact Hl.out.symm, Hx.out⟩
              · cases t2 : (fp == fq)
                · have HNo := Lib.hid (HNo.out (by simp [t2]))
                  refine wp_region_class (fun W => HH w W [(w.heap.size, rowO 24 [.slice aS n cS, .slice (some ⟨bM, oM, none⟩) N cM, .int .i64 L])] [⟨some ⟨bF, oF, none⟩, cF, 3, ints F⟩, ⟨A, C * 2, 45, prs l⟩]) (by kernel_rfl) (by kernel_rfl) Hh.out.drew ?_
                  refine no_implicit_lambda% (wpQuiet_val (.pointer (some ⟨w.heap.size, 0, none⟩)) rfl (fun W' hW' => ?_) ?_)
                  · obtain ⟨i1, i2, i3, i4, i5, i6, i7, i8, i9⟩ := HKS.out W' _ hW'
                    go_simp
                  simp only [Act.put, List.setIfInBounds_toArray, List.set_cons_succ, List.set_cons_zero]
                  refine no_implicit_lambda% (wpQuiet_val (.slice aS n cS) rfl (fun W' hW' => ?_) ?_)
                  · obtain ⟨i1, i2, i3, i4, i5, i6, i7, i8, i9⟩ := HKS.out W' _ hW'
                    go_simp
                  simp only [Act.put, List.setIfInBounds_toArray, List.set_cons_succ, List.set_cons_zero]
                  refine no_implicit_lambda% (wpQuiet_move (.tmp 5) (.int .i64 (x : Int)) rfl rfl (by kernel_rfl) ?_)
                  simp only [Act.put, List.setIfInBounds_toArray, List.set_cons_succ, List.set_cons_zero]
                  refine no_implicit_lambda% (wpQuiet_call (.bool true) 49 _ _ [.slice aS n cS, .int .i64 (x : Int)] rfl rfl (by kernel_rfl) Try.call49 (fun W' h => HOx.out W' h) ?_)
                  simp only [Act.put, List.setIfInBounds_toArray, List.set_cons_succ, List.set_cons_zero]
                  refine no_implicit_lambda% (wpQuiet_move (.tmp 29) (.bool true) rfl rfl (by kernel_rfl) ?_)
                  simp only [Act.put, List.setIfInBounds_toArray, List.set_cons_succ, List.set_cons_zero]
                  refine no_implicit_lambda% (wpQuietW_val (.pointer (some ⟨w.heap.size, 0, none⟩)) (by kernel_rfl) (fun W' hW' => ?_) ?_)
                  · obtain ⟨i1, i2, i3, i4, i5, i6, i7, i8, i9⟩ := HKS.out W' _ hW'
                    go_simp
                  simp only [Act.put, List.setIfInBounds_toArray, List.set_cons_succ, List.set_cons_zero]
                  refine no_implicit_lambda% (wpQuietW_val (.slice aS n cS) (by kernel_rfl) (fun W' hW' => ?_) ?_)
                  · obtain ⟨i1, i2, i3, i4, i5, i6, i7, i8, i9⟩ := HKS.out W' _ hW'
                    go_simp
                  simp only [Act.put, List.setIfInBounds_toArray, List.set_cons_succ, List.set_cons_zero]
                  refine no_implicit_lambda% (wpQuietW_move (.tmp 6) (.int .i64 (y : Int)) (by kernel_rfl) rfl (by kernel_rfl) ?_)
                  simp only [Act.put, List.setIfInBounds_toArray, List.set_cons_succ, List.set_cons_zero]
                  refine no_implicit_lambda% (wpQuietW_call (.bool true) 49 _ _ [.slice aS n cS, .int .i64 (y : Int)] (by kernel_rfl) rfl (by kernel_rfl) Try.call49 (fun W' h => HOy.out W' h) ?_)
                  simp only [Act.put, List.setIfInBounds_toArray, List.set_cons_succ, List.set_cons_zero]
                  refine no_implicit_lambda% (wpQuiet_val (.bool true) rfl (fun W' hW' => ?_) ?_)
                  · obtain ⟨i1, i2, i3, i4, i5, i6, i7, i8, i9⟩ := HKS.out W' _ hW'
                    go_simp
                  simp only [Act.put, List.setIfInBounds_toArray, List.set_cons_succ, List.set_cons_zero]
                  refine no_implicit_lambda% (wpQuiet_move (.tmp 35) (.bool true) rfl rfl (by kernel_rfl) ?_)
                  simp only [Act.put, List.setIfInBounds_toArray, List.set_cons_succ, List.set_cons_zero]
                  refine no_implicit_lambda% (wpQuietW_move (.tmp 3) (.slice (some ⟨bF, oF, none⟩) N cF) (by kernel_rfl) rfl (by kernel_rfl) ?_)
                  simp only [Act.put, List.setIfInBounds_toArray, List.set_cons_succ, List.set_cons_zero]
                  refine no_implicit_lambda% (wpQuietW_move (.tmp 5) (.int .i64 (x : Int)) (by kernel_rfl) rfl (by kernel_rfl) ?_)
                  simp only [Act.put, List.setIfInBounds_toArray, List.set_cons_succ, List.set_cons_zero]
                  refine no_implicit_lambda% (wpQuietW_val (.pointer (some ⟨bF, oF + x, none⟩)) (by kernel_rfl) (fun W' hW' => ?_) ?_)
                  · obtain ⟨i1, i2, i3, i4, i5, i6, i7, i8, i9⟩ := HKS.out W' _ hW'
                    go_simp
                  simp only [Act.put, List.setIfInBounds_toArray, List.set_cons_succ, List.set_cons_zero]
                  refine no_implicit_lambda% (wpQuietW_val (.int .i64 (fx)) (by kernel_rfl) (fun W' hW' => ?_) ?_)
                  · obtain ⟨i1, i2, i3, i4, i5, i6, i7, i8, i9⟩ := HKS.out W' _ hW'
                    go_simp
                  simp only [Act.put, List.setIfInBounds_toArray, List.set_cons_succ, List.set_cons_zero]
                  refine no_implicit_lambda% (wpQuietW_move (.tmp 3) (.slice (some ⟨bF, oF, none⟩) N cF) (by kernel_rfl) rfl (by kernel_rfl) ?_)
                  simp only [Act.put, List.setIfInBounds_toArray, List.set_cons_succ, List.set_cons_zero]
                  refine no_implicit_lambda% (wpQuietW_move (.tmp 6) (.int .i64 (y : Int)) (by kernel_rfl) rfl (by kernel_rfl) ?_)
                  simp only [Act.put, List.setIfInBounds_toArray, List.set_cons_succ, List.set_cons_zero]
                  refine no_implicit_lambda% (wpQuietW_val (.pointer (some ⟨bF, oF + y, none⟩)) (by kernel_rfl) (fun W' hW' => ?_) ?_)
                  · obtain ⟨i1, i2, i3, i4, i5, i6, i7, i8, i9⟩ := HKS.out W' _ hW'
                    go_simp
                  simp only [Act.put, List.setIfInBounds_toArray, List.set_cons_succ, List.set_cons_zero]
                  refine no_implicit_lambda% (wpQuietW_val (.int .i64 (fy)) (by kernel_rfl) (fun W' hW' => ?_) ?_)
                  · obtain ⟨i1, i2, i3, i4, i5, i6, i7, i8, i9⟩ := HKS.out W' _ hW'
                    go_simp
                  simp only [Act.put, List.setIfInBounds_toArray, List.set_cons_succ, List.set_cons_zero]
                  refine no_implicit_lambda% (wpQuietW_val (.bool true) (by kernel_rfl) (fun W' hW' => ?_) ?_)
                  · obtain ⟨i1, i2, i3, i4, i5, i6, i7, i8, i9⟩ := HKS.out W' _ hW'
                    go_simp
                  simp only [Act.put, List.setIfInBounds_toArray, List.set_cons_succ, List.set_cons_zero]
                  refine no_implicit_lambda% (wpQuiet_val (.bool true) rfl (fun W' hW' => ?_) ?_)
                  · obtain ⟨i1, i2, i3, i4, i5, i6, i7, i8, i9⟩ := HKS.out W' _ hW'
                    go_simp
                  simp only [Act.put, List.setIfInBounds_toArray, List.set_cons_succ, List.set_cons_zero]
                  refine no_implicit_lambda% (wpQuiet_move (.tmp 46) (.bool true) rfl rfl (by kernel_rfl) ?_)
                  simp only [Act.put, List.setIfInBounds_toArray, List.set_cons_succ, List.set_cons_zero]
                  refine no_implicit_lambda% (wpQuietW_move (.tmp 3) (.slice (some ⟨bF, oF, none⟩) N cF) (by kernel_rfl) rfl (by kernel_rfl) ?_)
                  simp only [Act.put, List.setIfInBounds_toArray, List.set_cons_succ, List.set_cons_zero]
                  refine no_implicit_lambda% (wpQuietW_val (.pointer (some ⟨w.heap.size, 1, none⟩)) (by kernel_rfl) (fun W' hW' => ?_) ?_)
                  · obtain ⟨i1, i2, i3, i4, i5, i6, i7, i8, i9⟩ := HKS.out W' _ hW'
                    go_simp
                  simp only [Act.put, List.setIfInBounds_toArray, List.set_cons_succ, List.set_cons_zero]
                  refine no_implicit_lambda% (wpQuietW_val (.slice (some ⟨bM, oM, none⟩) N cM) (by kernel_rfl) (fun W' hW' => ?_) ?_)
                  · obtain ⟨i1, i2, i3, i4, i5, i6, i7, i8, i9⟩ := HKS.out W' _ hW'
                    go_simp
                  simp only [Act.put, List.setIfInBounds_toArray, List.set_cons_succ, List.set_cons_zero]
                  refine no_implicit_lambda% (wpQuietW_move (.tmp 5) (.int .i64 (x : Int)) (by kernel_rfl) rfl (by kernel_rfl) ?_)
                  simp only [Act.put, List.setIfInBounds_toArray, List.set_cons_succ, List.set_cons_zero]
                  refine no_implicit_lambda% (wpQuietW_val (.pointer (some ⟨bM, oM + x, none⟩)) (by kernel_rfl) (fun W' hW' => ?_) ?_)
                  · obtain ⟨i1, i2, i3, i4, i5, i6, i7, i8, i9⟩ := HKS.out W' _ hW'
                    go_simp
                  simp only [Act.put, List.setIfInBounds_toArray, List.set_cons_succ, List.set_cons_zero]
                  refine no_implicit_lambda% (wpQuietW_val (.int .i64 (p : Int)) (by kernel_rfl) (fun W' hW' => ?_) ?_)
                  · obtain ⟨i1, i2, i3, i4, i5, i6, i7, i8, i9⟩ := HKS.out W' _ hW'
                    go_simp
                  simp only [Act.put, List.setIfInBounds_toArray, List.set_cons_succ, List.set_cons_zero]
                  refine no_implicit_lambda% (wpQuietW_val (.pointer (some ⟨bF, oF + p, none⟩)) (by kernel_rfl) (fun W' hW' => ?_) ?_)
                  · obtain ⟨i1, i2, i3, i4, i5, i6, i7, i8, i9⟩ := HKS.out W' _ hW'
                    go_simp
                  simp only [Act.put, List.setIfInBounds_toArray, List.set_cons_succ, List.set_cons_zero]
                  refine no_implicit_lambda% (wpQuietW_val (.int .i64 (fp)) (by kernel_rfl) (fun W' hW' => ?_) ?_)
                  · obtain ⟨i1, i2, i3, i4, i5, i6, i7, i8, i9⟩ := HKS.out W' _ hW'
                    go_simp
                  simp only [Act.put, List.setIfInBounds_toArray, List.set_cons_succ, List.set_cons_zero]
                  refine no_implicit_lambda% (wpQuietW_move (.tmp 3) (.slice (some ⟨bF, oF, none⟩) N cF) (by kernel_rfl) rfl (by kernel_rfl) ?_)
                  simp only [Act.put, List.setIfInBounds_toArray, List.set_cons_succ, List.set_cons_zero]
                  refine no_implicit_lambda% (wpQuietW_val (.pointer (some ⟨w.heap.size, 1, none⟩)) (by kernel_rfl) (fun W' hW' => ?_) ?_)
                  · obtain ⟨i1, i2, i3, i4, i5, i6, i7, i8, i9⟩ := HKS.out W' _ hW'
                    go_simp
                  simp only [Act.put, List.setIfInBounds_toArray, List.set_cons_succ, List.set_cons_zero]
                  refine no_implicit_lambda% (wpQuietW_val (.slice (some ⟨bM, oM, none⟩) N cM) (by kernel_rfl) (fun W' hW' => ?_) ?_)
                  · obtain ⟨i1, i2, i3, i4, i5, i6, i7, i8, i9⟩ := HKS.out W' _ hW'
                    go_simp
                  simp only [Act.put, List.setIfInBounds_toArray, List.set_cons_succ, List.set_cons_zero]
                  refine no_implicit_lambda% (wpQuietW_move (.tmp 6) (.int .i64 (y : Int)) (by kernel_rfl) rfl (by kernel_rfl) ?_)
                  simp only [Act.put, List.setIfInBounds_toArray, List.set_cons_succ, List.set_cons_zero]
                  refine no_implicit_lambda% (wpQuietW_val (.pointer (some ⟨bM, oM + y, none⟩)) (by kernel_rfl) (fun W' hW' => ?_) ?_)
                  · obtain ⟨i1, i2, i3, i4, i5, i6, i7, i8, i9⟩ := HKS.out W' _ hW'
                    go_simp
                  simp only [Act.put, List.setIfInBounds_toArray, List.set_cons_succ, List.set_cons_zero]
                  refine no_implicit_lambda% (wpQuietW_val (.int .i64 (q : Int)) (by kernel_rfl) (fun W' hW' => ?_) ?_)
                  · obtain ⟨i1, i2, i3, i4, i5, i6, i7, i8, i9⟩ := HKS.out W' _ hW'
                    go_simp
                  simp only [Act.put, List.setIfInBounds_toArray, List.set_cons_succ, List.set_cons_zero]
                  refine no_implicit_lambda% (wpQuietW_val (.pointer (some ⟨bF, oF + q, none⟩)) (by kernel_rfl) (fun W' hW' => ?_) ?_)
                  · obtain ⟨i1, i2, i3, i4, i5, i6, i7, i8, i9⟩ := HKS.out W' _ hW'
                    go_simp
                  simp only [Act.put, List.setIfInBounds_toArray, List.set_cons_succ, List.set_cons_zero]
                  refine no_implicit_lambda% (wpQuietW_val (.int .i64 (fq)) (by kernel_rfl) (fun W' hW' => ?_) ?_)
                  · obtain ⟨i1, i2, i3, i4, i5, i6, i7, i8, i9⟩ := HKS.out W' _ hW'
                    go_simp
                  simp only [Act.put, List.setIfInBounds_toArray, List.set_cons_succ, List.set_cons_zero]
                  refine no_implicit_lambda% (wpQuietW_val (.bool false) (by kernel_rfl) (fun W' hW' => ?_) ?_)
                  · obtain ⟨i1, i2, i3, i4, i5, i6, i7, i8, i9⟩ := HKS.out W' _ hW'
                    go_simp
                  simp only [Act.put, List.setIfInBounds_toArray, List.set_cons_succ, List.set_cons_zero]
                  refine no_implicit_lambda% (wpQuiet_val (.bool false) rfl (fun W' hW' => ?_) ?_)
                  · obtain ⟨i1, i2, i3, i4, i5, i6, i7, i8, i9⟩ := HKS.out W' _ hW'
                    go_simp
                  simp only [Act.put, List.setIfInBounds_toArray, List.set_cons_succ, List.set_cons_zero]
                  refine no_implicit_lambda% (wpQuiet_end ?_)
                  intro w5 hw5
                  have Hx := Lib.hid hw5
                  clear hw5
                  go_wp2_with fail
                  go_roundg (N - (y + 1))
                  case measure => omega
                  case rel => exact ⟨y + 1, A, C, l, by omega, by omega, rfl, by go_num, by rw [Hll.out], by rw [← Hll.out]; exact hlC, by rw [HNo.out]; exact Hl.out.symm, Hx.out⟩
                · have HYes := Lib.hid (HYes.out (by simp [t1, t2]))
                  refine wp_region_class (fun W => HH w W [(w.heap.size, rowO 24 [.slice aS n cS, .slice (some ⟨bM, oM, none⟩) N cM, .int .i64 L])] [⟨some ⟨bF, oF, none⟩, cF, 3, ints F⟩, ⟨A, C * 2, 45, prs l⟩]) (by kernel_rfl) (by kernel_rfl) Hh.out.drew ?_
                  refine no_implicit_lambda% (wpQuiet_val (.pointer (some ⟨w.heap.size, 0, none⟩)) rfl (fun W' hW' => ?_) ?_)
                  · obtain ⟨i1, i2, i3, i4, i5, i6, i7, i8, i9⟩ := HKS.out W' _ hW'
                    go_simp
                  simp only [Act.put, List.setIfInBounds_toArray, List.set_cons_succ, List.set_cons_zero]
                  refine no_implicit_lambda% (wpQuiet_val (.slice aS n cS) rfl (fun W' hW' => ?_) ?_)
                  · obtain ⟨i1, i2, i3, i4, i5, i6, i7, i8, i9⟩ := HKS.out W' _ hW'
                    go_simp
                  simp only [Act.put, List.setIfInBounds_toArray, List.set_cons_succ, List.set_cons_zero]
                  refine no_implicit_lambda% (wpQuiet_move (.tmp 5) (.int .i64 (x : Int)) rfl rfl (by kernel_rfl) ?_)
                  simp only [Act.put, List.setIfInBounds_toArray, List.set_cons_succ, List.set_cons_zero]
                  refine no_implicit_lambda% (wpQuiet_call (.bool true) 49 _ _ [.slice aS n cS, .int .i64 (x : Int)] rfl rfl (by kernel_rfl) Try.call49 (fun W' h => HOx.out W' h) ?_)
                  simp only [Act.put, List.setIfInBounds_toArray, List.set_cons_succ, List.set_cons_zero]
                  refine no_implicit_lambda% (wpQuiet_move (.tmp 29) (.bool true) rfl rfl (by kernel_rfl) ?_)
                  simp only [Act.put, List.setIfInBounds_toArray, List.set_cons_succ, List.set_cons_zero]
                  refine no_implicit_lambda% (wpQuietW_val (.pointer (some ⟨w.heap.size, 0, none⟩)) (by kernel_rfl) (fun W' hW' => ?_) ?_)
                  · obtain ⟨i1, i2, i3, i4, i5, i6, i7, i8, i9⟩ := HKS.out W' _ hW'
                    go_simp
                  simp only [Act.put, List.setIfInBounds_toArray, List.set_cons_succ, List.set_cons_zero]
                  refine no_implicit_lambda% (wpQuietW_val (.slice aS n cS) (by kernel_rfl) (fun W' hW' => ?_) ?_)
                  · obtain ⟨i1, i2, i3, i4, i5, i6, i7, i8, i9⟩ := HKS.out W' _ hW'
                    go_simp
                  simp only [Act.put, List.setIfInBounds_toArray, List.set_cons_succ, List.set_cons_zero]
                  refine no_implicit_lambda% (wpQuietW_move (.tmp 6) (.int .i64 (y : Int)) (by kernel_rfl) rfl (by kernel_rfl) ?_)
                  simp only [Act.put, List.setIfInBounds_toArray, List.set_cons_succ, List.set_cons_zero]
                  refine no_implicit_lambda% (wpQuietW_call (.bool true) 49 _ _ [.slice aS n cS, .int .i64 (y : Int)] (by kernel_rfl) rfl (by kernel_rfl) Try.call49 (fun W' h => HOy.out W' h) ?_)
                  simp only [Act.put, List.setIfInBounds_toArray, List.set_cons_succ, List.set_cons_zero]
                  refine no_implicit_lambda% (wpQuiet_val (.bool true) rfl (fun W' hW' => ?_) ?_)
                  · obtain ⟨i1, i2, i3, i4, i5, i6, i7, i8, i9⟩ := HKS.out W' _ hW'
                    go_simp
                  simp only [Act.put, List.setIfInBounds_toArray, List.set_cons_succ, List.set_cons_zero]
                  refine no_implicit_lambda% (wpQuiet_move (.tmp 35) (.bool true) rfl rfl (by kernel_rfl) ?_)
                  simp only [Act.put, List.setIfInBounds_toArray, List.set_cons_succ, List.set_cons_zero]
                  refine no_implicit_lambda% (wpQuietW_move (.tmp 3) (.slice (some ⟨bF, oF, none⟩) N cF) (by kernel_rfl) rfl (by kernel_rfl) ?_)
                  simp only [Act.put, List.setIfInBounds_toArray, List.set_cons_succ, List.set_cons_zero]
                  refine no_implicit_lambda% (wpQuietW_move (.tmp 5) (.int .i64 (x : Int)) (by kernel_rfl) rfl (by kernel_rfl) ?_)
                  simp only [Act.put, List.setIfInBounds_toArray, List.set_cons_succ, List.set_cons_zero]
                  refine no_implicit_lambda% (wpQuietW_val (.pointer (some ⟨bF, oF + x, none⟩)) (by kernel_rfl) (fun W' hW' => ?_) ?_)
                  · obtain ⟨i1, i2, i3, i4, i5, i6, i7, i8, i9⟩ := HKS.out W' _ hW'
                    go_simp
                  simp only [Act.put, List.setIfInBounds_toArray, List.set_cons_succ, List.set_cons_zero]
                  refine no_implicit_lambda% (wpQuietW_val (.int .i64 (fx)) (by kernel_rfl) (fun W' hW' => ?_) ?_)
                  · obtain ⟨i1, i2, i3, i4, i5, i6, i7, i8, i9⟩ := HKS.out W' _ hW'
                    go_simp
                  simp only [Act.put, List.setIfInBounds_toArray, List.set_cons_succ, List.set_cons_zero]
                  refine no_implicit_lambda% (wpQuietW_move (.tmp 3) (.slice (some ⟨bF, oF, none⟩) N cF) (by kernel_rfl) rfl (by kernel_rfl) ?_)
                  simp only [Act.put, List.setIfInBounds_toArray, List.set_cons_succ, List.set_cons_zero]
                  refine no_implicit_lambda% (wpQuietW_move (.tmp 6) (.int .i64 (y : Int)) (by kernel_rfl) rfl (by kernel_rfl) ?_)
                  simp only [Act.put, List.setIfInBounds_toArray, List.set_cons_succ, List.set_cons_zero]
                  refine no_implicit_lambda% (wpQuietW_val (.pointer (some ⟨bF, oF + y, none⟩)) (by kernel_rfl) (fun W' hW' => ?_) ?_)
                  · obtain ⟨i1, i2, i3, i4, i5, i6, i7, i8, i9⟩ := HKS.out W' _ hW'
                    go_simp
                  simp only [Act.put, List.setIfInBounds_toArray, List.set_cons_succ, List.set_cons_zero]
                  refine no_implicit_lambda% (wpQuietW_val (.int .i64 (fy)) (by kernel_rfl) (fun W' hW' => ?_) ?_)
                  · obtain ⟨i1, i2, i3, i4, i5, i6, i7, i8, i9⟩ := HKS.out W' _ hW'
                    go_simp
                  simp only [Act.put, List.setIfInBounds_toArray, List.set_cons_succ, List.set_cons_zero]
                  refine no_implicit_lambda% (wpQuietW_val (.bool true) (by kernel_rfl) (fun W' hW' => ?_) ?_)
                  · obtain ⟨i1, i2, i3, i4, i5, i6, i7, i8, i9⟩ := HKS.out W' _ hW'
                    go_simp
                  simp only [Act.put, List.setIfInBounds_toArray, List.set_cons_succ, List.set_cons_zero]
                  refine no_implicit_lambda% (wpQuiet_val (.bool true) rfl (fun W' hW' => ?_) ?_)
                  · obtain ⟨i1, i2, i3, i4, i5, i6, i7, i8, i9⟩ := HKS.out W' _ hW'
                    go_simp
                  simp only [Act.put, List.setIfInBounds_toArray, List.set_cons_succ, List.set_cons_zero]
                  refine no_implicit_lambda% (wpQuiet_move (.tmp 46) (.bool true) rfl rfl (by kernel_rfl) ?_)
                  simp only [Act.put, List.setIfInBounds_toArray, List.set_cons_succ, List.set_cons_zero]
                  refine no_implicit_lambda% (wpQuietW_move (.tmp 3) (.slice (some ⟨bF, oF, none⟩) N cF) (by kernel_rfl) rfl (by kernel_rfl) ?_)
                  simp only [Act.put, List.setIfInBounds_toArray, List.set_cons_succ, List.set_cons_zero]
                  refine no_implicit_lambda% (wpQuietW_val (.pointer (some ⟨w.heap.size, 1, none⟩)) (by kernel_rfl) (fun W' hW' => ?_) ?_)
                  · obtain ⟨i1, i2, i3, i4, i5, i6, i7, i8, i9⟩ := HKS.out W' _ hW'
                    go_simp
                  simp only [Act.put, List.setIfInBounds_toArray, List.set_cons_succ, List.set_cons_zero]
                  refine no_implicit_lambda% (wpQuietW_val (.slice (some ⟨bM, oM, none⟩) N cM) (by kernel_rfl) (fun W' hW' => ?_) ?_)
                  · obtain ⟨i1, i2, i3, i4, i5, i6, i7, i8, i9⟩ := HKS.out W' _ hW'
                    go_simp
                  simp only [Act.put, List.setIfInBounds_toArray, List.set_cons_succ, List.set_cons_zero]
                  refine no_implicit_lambda% (wpQuietW_move (.tmp 5) (.int .i64 (x : Int)) (by kernel_rfl) rfl (by kernel_rfl) ?_)
                  simp only [Act.put, List.setIfInBounds_toArray, List.set_cons_succ, List.set_cons_zero]
                  refine no_implicit_lambda% (wpQuietW_val (.pointer (some ⟨bM, oM + x, none⟩)) (by kernel_rfl) (fun W' hW' => ?_) ?_)
                  · obtain ⟨i1, i2, i3, i4, i5, i6, i7, i8, i9⟩ := HKS.out W' _ hW'
                    go_simp
                  simp only [Act.put, List.setIfInBounds_toArray, List.set_cons_succ, List.set_cons_zero]
                  refine no_implicit_lambda% (wpQuietW_val (.int .i64 (p : Int)) (by kernel_rfl) (fun W' hW' => ?_) ?_)
                  · obtain ⟨i1, i2, i3, i4, i5, i6, i7, i8, i9⟩ := HKS.out W' _ hW'
                    go_simp
                  simp only [Act.put, List.setIfInBounds_toArray, List.set_cons_succ, List.set_cons_zero]
                  refine no_implicit_lambda% (wpQuietW_val (.pointer (some ⟨bF, oF + p, none⟩)) (by kernel_rfl) (fun W' hW' => ?_) ?_)
                  · obtain ⟨i1, i2, i3, i4, i5, i6, i7, i8, i9⟩ := HKS.out W' _ hW'
                    go_simp
                  simp only [Act.put, List.setIfInBounds_toArray, List.set_cons_succ, List.set_cons_zero]
                  refine no_implicit_lambda% (wpQuietW_val (.int .i64 (fp)) (by kernel_rfl) (fun W' hW' => ?_) ?_)
                  · obtain ⟨i1, i2, i3, i4, i5, i6, i7, i8, i9⟩ := HKS.out W' _ hW'
                    go_simp
                  simp only [Act.put, List.setIfInBounds_toArray, List.set_cons_succ, List.set_cons_zero]
                  refine no_implicit_lambda% (wpQuietW_move (.tmp 3) (.slice (some ⟨bF, oF, none⟩) N cF) (by kernel_rfl) rfl (by kernel_rfl) ?_)
                  simp only [Act.put, List.setIfInBounds_toArray, List.set_cons_succ, List.set_cons_zero]
                  refine no_implicit_lambda% (wpQuietW_val (.pointer (some ⟨w.heap.size, 1, none⟩)) (by kernel_rfl) (fun W' hW' => ?_) ?_)
                  · obtain ⟨i1, i2, i3, i4, i5, i6, i7, i8, i9⟩ := HKS.out W' _ hW'
                    go_simp
                  simp only [Act.put, List.setIfInBounds_toArray, List.set_cons_succ, List.set_cons_zero]
                  refine no_implicit_lambda% (wpQuietW_val (.slice (some ⟨bM, oM, none⟩) N cM) (by kernel_rfl) (fun W' hW' => ?_) ?_)
                  · obtain ⟨i1, i2, i3, i4, i5, i6, i7, i8, i9⟩ := HKS.out W' _ hW'
                    go_simp
                  simp only [Act.put, List.setIfInBounds_toArray, List.set_cons_succ, List.set_cons_zero]
                  refine no_implicit_lambda% (wpQuietW_move (.tmp 6) (.int .i64 (y : Int)) (by kernel_rfl) rfl (by kernel_rfl) ?_)
                  simp only [Act.put, List.setIfInBounds_toArray, List.set_cons_succ, List.set_cons_zero]
                  refine no_implicit_lambda% (wpQuietW_val (.pointer (some ⟨bM, oM + y, none⟩)) (by kernel_rfl) (fun W' hW' => ?_) ?_)
                  · obtain ⟨i1, i2, i3, i4, i5, i6, i7, i8, i9⟩ := HKS.out W' _ hW'
                    go_simp
                  simp only [Act.put, List.setIfInBounds_toArray, List.set_cons_succ, List.set_cons_zero]
                  refine no_implicit_lambda% (wpQuietW_val (.int .i64 (q : Int)) (by kernel_rfl) (fun W' hW' => ?_) ?_)
                  · obtain ⟨i1, i2, i3, i4, i5, i6, i7, i8, i9⟩ := HKS.out W' _ hW'
                    go_simp
                  simp only [Act.put, List.setIfInBounds_toArray, List.set_cons_succ, List.set_cons_zero]
                  refine no_implicit_lambda% (wpQuietW_val (.pointer (some ⟨bF, oF + q, none⟩)) (by kernel_rfl) (fun W' hW' => ?_) ?_)
                  · obtain ⟨i1, i2, i3, i4, i5, i6, i7, i8, i9⟩ := HKS.out W' _ hW'
                    go_simp
                  simp only [Act.put, List.setIfInBounds_toArray, List.set_cons_succ, List.set_cons_zero]
                  refine no_implicit_lambda% (wpQuietW_val (.int .i64 (fq)) (by kernel_rfl) (fun W' hW' => ?_) ?_)
                  · obtain ⟨i1, i2, i3, i4, i5, i6, i7, i8, i9⟩ := HKS.out W' _ hW'
                    go_simp
                  simp only [Act.put, List.setIfInBounds_toArray, List.set_cons_succ, List.set_cons_zero]
                  refine no_implicit_lambda% (wpQuietW_val (.bool true) (by kernel_rfl) (fun W' hW' => ?_) ?_)
                  · obtain ⟨i1, i2, i3, i4, i5, i6, i7, i8, i9⟩ := HKS.out W' _ hW'
                    go_simp
                  simp only [Act.put, List.setIfInBounds_toArray, List.set_cons_succ, List.set_cons_zero]
                  refine no_implicit_lambda% (wpQuiet_val (.bool true) rfl (fun W' hW' => ?_) ?_)
                  · obtain ⟨i1, i2, i3, i4, i5, i6, i7, i8, i9⟩ := HKS.out W' _ hW'
                    go_simp
                  simp only [Act.put, List.setIfInBounds_toArray, List.set_cons_succ, List.set_cons_zero]
                  refine no_implicit_lambda% (wpQuiet_end ?_)
                  intro w5 hw5
                  have Hx := Lib.hid hw5
                  clear hw5
                  have Ha := Lib.hid (Hx.out.call ((Below.refl _ _).alloc (Nat.le_refl _) (.cells #[.int .i64 (x : Int), .int .i64 (y : Int)] 45)))
                  have Hus : Hid (VAt (w5.alloc (.cells #[.int .i64 (x : Int), .int .i64 (y : Int)] 45)) (some ⟨w5.heap.size, 0, none⟩) [.int .i64 (x : Int), .int .i64 (y : Int)]) := Lib.hid (Row.new w5 #[.int .i64 (x : Int), .int .i64 (y : Int)] 45).at
                  have Hl1 := Lib.hid Ha.out.below.size
                  go_wp2_with (with_reducible refine wpList_append_wide rfl (.tmp 66) (.tmp 70) 40 40 rfl w.heap.size 45 i0 _ 16 2 Try.underlying40 Try.underlying40 hi0 hz0 hz1 (by decide) hz2 Hzc.out A ll C (prs l) rfl Hvl.out hlC (Ha.out.sl (k := 1) rfl) (some ⟨w5.heap.size, 0, none⟩) 1 1 [.int .i64 (x : Int), .int .i64 (y : Int)] rfl Hum.out Hus.out Hu1.out (by omega) (by omega) Hl1.out ?_; intro A7 e7 w7 hle hO7 hT7 hA7; have HO7 := Lib.hid hO7; have HT7 := Lib.hid hT7; have HA7 := Lib.hid hA7; clear hO7 hT7 hA7)
                  have H7 := Lib.hid (Ha.out.grow (k := 1) rfl HO7.out HT7.out HA7.out)
                  go_roundg (N - (y + 1))
                  case measure => omega
                  case rel =>
                    refine ⟨y + 1, A7, e7, l ++ [(x, y)], by omega, by omega, rfl, by go_num, by rw [List.length_append, Hll.out]; rfl, by rw [List.length_append, ← Hll.out]; exact hle, by rw [HYes.out, Hl.out, List.append_assoc], ?_⟩
                    have h := H7.out
                    rw [prs_snoc] at h
                    exact h
        · obtain rfl : y = N := by omega
          go_wp2_with fail
          go_roundg (y - (x + 1))
          case measure => omega
          case rel => exact ⟨x + 1, A, C, l, by omega, rfl, by go_num, by rw [Hll.out], by rw [← Hll.out]; exact hlC, by rw [Hre.out]; exact Hl.out, Hh.out⟩
    · obtain rfl : x = N := by omega
      go_wp2_with fail
      go_ret
      rw [← Hl.out]
      exact ⟨A, C, by rw [Hll.out]; rfl, by rw [← Hll.out]; exact hlC, Hh.out.sl (k := 1) rfl, Hh.out.below⟩
end Go.Proofs.Ytmjoijfafachhaa
