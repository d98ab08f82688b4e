/- connect.Factor at two edges that are no cut. -/
import Derived.Test.YtmjoijfafachhaaFacW
import Derived.Test.YtmjoijfafachhaaQuietA
import Derived.BigQuiet
namespace Go.Proofs.Ytmjoijfafachhaa
open Go Go.RowKit
set_option maxRecDepth 100000 in
set_option maxHeartbeats 4000000 in
theorem factor_move_a (S M : List Int) (L : Int) (aS aM : Option Addr) (cS cM : Nat) (x y : Nat) (w : World) (hv : vldB S M L = true) (hx : x < 4 * S.length) (hy : y < 4 * S.length) (hox : outB S x = true) (hoy : outB S y = true) (hxy : x = y) (hS : IntsAt w aS S) (hM : IntsAt w aM M) :
    Calls Try.prog 21 #[.agg #[.slice aS S.length cS, .slice aM M.length cM, .int .i64 L], .int .i64 (x : Int), .int .i64 (y : Int)] w fun e w' => e = .returned (.tuple #[.agg #[.slice none 0 0, .slice none 0 0, .int .i64 0], .agg #[.slice none 0 0, .slice none 0 0, .int .i64 0], .int .i64 6]) ∧ Below w.heap.size w w' := by
  subst hxy
  have hs := vldB_shape hv
  have hfw := hs.few
  have hml := hs.len
  have HV : Hid (∀ W', Below w.heap.size w W' → Calls Try.prog 26 #[.agg #[.slice aS S.length cS, .slice aM M.length cM, .int .i64 L]] W' fun e w' => e = .returned (.bool true) ∧ Below W'.heap.size W' w') := Lib.hid fun W' h => by
    have g := valid_any S M L aS aM cS cM W' (by omega) (by omega) (hS.later h) (hM.later h)
    rw [hv] at g; exact g
  have HF : Hid (∀ W', Below w.heap.size w W' → Calls Try.prog 58 #[.agg #[.slice aS S.length cS, .slice aM M.length cM, .int .i64 L]] W' fun e w' => ∃ a c, e = .returned (.slice a (4 * S.length) c) ∧ Own w' W'.heap.size 3 a c (ints (leftL M S.length)) ∧ Below W'.heap.size W' w') := Lib.hid fun W' h => left_any S M L aS aM cS cM W' hv (hS.later h) (hM.later h)
  have HX : Hid (∀ W', Below w.heap.size w W' → Calls Try.prog 57 #[.agg #[.slice aS S.length cS, .slice aM M.length cM, .int .i64 L], .int .i64 (x : Int)] W' fun e w' => e = .returned (.bool true) ∧ Below W'.heap.size W' w') := Lib.hid fun W' hb => by
    have g := coutgoing_any S M L aS aM cS cM x W' (by omega) (by omega) (hS.later hb)
    rw [hox] at g; exact g
  have HY : Hid (∀ W', Below w.heap.size w W' → Calls Try.prog 57 #[.agg #[.slice aS S.length cS, .slice aM M.length cM, .int .i64 L], .int .i64 (x : Int)] W' fun e w' => e = .returned (.bool true) ∧ Below W'.heap.size W' w') := Lib.hid fun W' hb => by
    have g := coutgoing_any S M L aS aM cS cM x W' (by omega) (by omega) (hS.later hb)
    rw [hoy] at g; exact g
  obtain ⟨p, hp, hpv, hpm⟩ : ∃ p : Nat, p < 4 * S.length ∧ nth M x = (p : Int) ∧ mt M x = p := ⟨mt M x, hs.mt_lt hx, by have := hs.range x hx; unfold mt; omega, rfl⟩
  obtain ⟨q, hq, hqv, hqm⟩ : ∃ q : Nat, q < 4 * S.length ∧ nth M x = (q : Int) ∧ mt M x = q := ⟨mt M x, hs.mt_lt hy, by have := hs.range x hy; unfold mt; omega, rfl⟩
  have hFl : (leftL M S.length).length = 4 * S.length := leftTo_len _ _ _
  have hN : M.length ≤ 256 := by omega
  rw [← hml] at HF hFl hx hy hp hq
  obtain ⟨bM, oM, rfl, _, hcM⟩ := hM.open (by omega)
  have HM := Lib.hid hM
  have H0 := Lib.hid ((((HH.start w).alloc #[.slice aS S.length cS, .slice (some ⟨bM, oM, none⟩) M.length cM, .int .i64 L] 24 rfl rfl).alloc #[.slice none 0 0, .slice none 0 0, .int .i64 0] 24 (b := w.heap.size + 1) (by simp) rfl).alloc #[.slice none 0 0, .slice none 0 0, .int .i64 0] 24 (b := w.heap.size + 2) (by simp) rfl)
  generalize leftL M S.length = F at *
  have d1 : decide ((x : Int) < 0) = false := decide_eq_false (by omega)
  have d2 : decide ((x : Int) < 0) = false := decide_eq_false (by omega)
  have d3 : decide (M.length ≤ x) = false := decide_eq_false (by omega)
  have d4 : decide (M.length ≤ x) = false := decide_eq_false (by omega)
  have d5 : decide ((M.length : Int) ≤ (x : Int)) = false := decide_eq_false (by omega)
  have d6 : decide ((M.length : Int) ≤ (x : Int)) = false := decide_eq_false (by omega)
  clear hs hml hS hM hv hcM hpm hqm hox hoy
  generalize S.length = n at *
  obtain ⟨N, hNe⟩ : ∃ N, N = M.length := ⟨_, rfl⟩
  have HNe := Lib.hid hNe
  rw [← hNe] at hx hy hp hq hFl hN HV HF HX HY H0 d3 d4 d5 d6
  rw [← hNe]
  clear hNe
  go_enter Try.func21, Try.ntmps21
  go_wp2_with fail
  refine (HV.out _ H0.out.below).mono ?_
  rintro e w1 ⟨rfl, hb⟩
  have H1 := Lib.hid (H0.out.call hb)
  clear hb H0 HV
  have k00 := H1.out.cell (k := 0) (i := 0) rfl rfl
  have k01 := H1.out.cell (k := 0) (i := 1) rfl rfl
  have k02 := H1.out.cell (k := 0) (i := 2) rfl rfl
  have k10 := H1.out.cell (k := 1) (i := 0) rfl rfl
  have k11 := H1.out.cell (k := 1) (i := 1) rfl rfl
  have k12 := H1.out.cell (k := 1) (i := 2) rfl rfl
  have k20 := H1.out.cell (k := 2) (i := 0) rfl rfl
  have k21 := H1.out.cell (k := 2) (i := 1) rfl rfl
  have k22 := H1.out.cell (k := 2) (i := 2) rfl rfl
  go_wp2_with fail
  clear k00 k01 k02 k10 k11 k12 k20 k21 k22
  refine (HX.out _ H1.out.below).mono ?_
  rintro e w2 ⟨rfl, hb⟩
  have H2 := Lib.hid (H1.out.call hb)
  clear hb H1 HX
  have k00 := H2.out.cell (k := 0) (i := 0) rfl rfl
  have k01 := H2.out.cell (k := 0) (i := 1) rfl rfl
  have k02 := H2.out.cell (k := 0) (i := 2) rfl rfl
  have k10 := H2.out.cell (k := 1) (i := 0) rfl rfl
  have k11 := H2.out.cell (k := 1) (i := 1) rfl rfl
  have k12 := H2.out.cell (k := 1) (i := 2) rfl rfl
  have k20 := H2.out.cell (k := 2) (i := 0) rfl rfl
  have k21 := H2.out.cell (k := 2) (i := 1) rfl rfl
  have k22 := H2.out.cell (k := 2) (i := 2) rfl rfl
  go_wp2_with fail
  clear k00 k01 k02 k10 k11 k12 k20 k21 k22
  refine (HY.out _ H2.out.below).mono ?_
  rintro e w3 ⟨rfl, hb⟩
  have H3 := Lib.hid (H2.out.call hb)
  clear hb H2 HY
  have k00 := H3.out.cell (k := 0) (i := 0) rfl rfl
  have k01 := H3.out.cell (k := 0) (i := 1) rfl rfl
  have k02 := H3.out.cell (k := 0) (i := 2) rfl rfl
  have k10 := H3.out.cell (k := 1) (i := 0) rfl rfl
  have k11 := H3.out.cell (k := 1) (i := 1) rfl rfl
  have k12 := H3.out.cell (k := 1) (i := 2) rfl rfl
  have k20 := H3.out.cell (k := 2) (i := 0) rfl rfl
  have k21 := H3.out.cell (k := 2) (i := 1) rfl rfl
  have k22 := H3.out.cell (k := 2) (i := 2) rfl rfl
  go_wp2_with fail
  clear k00 k01 k02 k10 k11 k12 k20 k21 k22
  refine (HF.out _ H3.out.below).mono ?_
  rintro e w4 ⟨aF, cF, rfl, ho, hb⟩
  have H4 := Lib.hid (H3.out.addSl hb ho)
  clear hb ho H3 HF
  obtain ⟨bF, oF, rfl, _, _, _, _⟩ := (H4.out.sl (k := 0) rfl).open (by show 0 < (ints F).length; rw [ints_length]; omega)
  obtain ⟨fx, hfx⟩ : ∃ u, u = nth F x := ⟨_, rfl⟩
  obtain ⟨fy, hfy⟩ : ∃ u, u = nth F x := ⟨_, rfl⟩
  obtain ⟨fp, hfp⟩ : ∃ u, u = nth F p := ⟨_, rfl⟩
  obtain ⟨fq, hfq⟩ : ∃ u, u = nth F q := ⟨_, rfl⟩
  have HKS : Hid (∀ (W' : World) (z : List SlO), HH w W' [(w.heap.size, rowO 24 [.slice aS n cS, .slice (some ⟨bM, oM, none⟩) N cM, .int .i64 L]), (w.heap.size + 1, rowO 24 [.slice none 0 0, .slice none 0 0, .int .i64 0]), (w.heap.size + 2, rowO 24 [.slice none 0 0, .slice none 0 0, .int .i64 0])] (⟨some ⟨bF, oF, none⟩, cF, 3, ints F⟩ :: z) → W'.cell? ⟨w.heap.size, 0, none⟩ = some (.slice aS n cS) ∧ W'.cell? ⟨w.heap.size, 1, none⟩ = some (.slice (some ⟨bM, oM, none⟩) N cM) ∧ W'.cell? ⟨w.heap.size, 2, none⟩ = some (.int .i64 L) ∧ W'.cell? ⟨bM, oM + x, none⟩ = some (.int .i64 (p : Int)) ∧ W'.cell? ⟨bM, oM + x, none⟩ = some (.int .i64 (q : Int)) ∧ W'.cell? ⟨bF, oF + x, none⟩ = some (.int .i64 fx) ∧ W'.cell? ⟨bF, oF + x, none⟩ = some (.int .i64 fy) ∧ W'.cell? ⟨bF, oF + p, none⟩ = some (.int .i64 fp) ∧ W'.cell? ⟨bF, oF + q, none⟩ = some (.int .i64 fq)) := Lib.hid fun W' z h => by
    obtain ⟨b9, o9, e9, _, _, hc9, _⟩ := (h.sl (k := 0) rfl).open (by show 0 < (ints F).length; rw [ints_length]; omega)
    cases e9
    obtain ⟨b8, o8, e8, _, hc8⟩ := (HM.out.later h.below).open (by rw [← HNe.out]; omega)
    cases e8
    have m1 := hc8 x (by rw [← HNe.out]; omega)
    have m2 := hc8 x (by rw [← HNe.out]; omega)
    rw [hpv] at m1
    rw [hqv] at m2
    rw [hfx, hfy, hfp, hfq]
    exact ⟨h.cell (k := 0) (i := 0) rfl rfl, h.cell (k := 0) (i := 1) rfl rfl, h.cell (k := 0) (i := 2) rfl rfl, m1, m2, hc9 _ _ (ints_get F x (by omega)), hc9 _ _ (ints_get F x (by omega)), hc9 _ _ (ints_get F p (by omega)), hc9 _ _ (ints_get F q (by omega))⟩
  have e1 : ((x : Int) == (x : Int)) = true := beq_self_eq_true _
  clear hfx hfy hfp hfq hpv hqv
  have D1 : decide ((p : Int) < 0) = false := decide_eq_false (by omega)
  have D2 : decide ((q : Int) < 0) = false := decide_eq_false (by omega)
  go_wp2_with fail
  refine wp_region_class (fun W => HH w W [(w.heap.size, rowO 24 [.slice aS n cS, .slice (some ⟨bM, oM, none⟩) N cM, .int .i64 L]), (w.heap.size + 1, rowO 24 [.slice none 0 0, .slice none 0 0, .int .i64 0]), (w.heap.size + 2, rowO 24 [.slice none 0 0, .slice none 0 0, .int .i64 0])] [⟨some ⟨bF, oF, none⟩, cF, 3, ints F⟩]) (by kernel_rfl) (by kernel_rfl) H4.out.drew ?_
  refine no_implicit_lambda% (wpQuiet_move (.tmp 1) (.int .i64 (x : Int)) rfl rfl (by kernel_rfl) ?_)
  simp only [Act.put, List.setIfInBounds_toArray, List.set_cons_succ, List.set_cons_zero]
  refine no_implicit_lambda% (wpQuiet_move (.tmp 2) (.int .i64 (x : Int)) rfl rfl (by kernel_rfl) ?_)
  simp only [Act.put, List.setIfInBounds_toArray, List.set_cons_succ, List.set_cons_zero]
  refine no_implicit_lambda% (wpQuiet_val (.bool true) rfl (fun W' hW' => ?_) ?_)
  · obtain ⟨i1, i2, i3, i4, i5, i6, i7, i8, i9⟩ := HKS.out W' _ hW'
    go_simp
  simp only [Act.put, List.setIfInBounds_toArray, List.set_cons_succ, List.set_cons_zero]
  refine no_implicit_lambda% (wpQuiet_move (.tmp 58) (.bool true) rfl rfl (by kernel_rfl) ?_)
  simp only [Act.put, List.setIfInBounds_toArray, List.set_cons_succ, List.set_cons_zero]
  go_big_quiet_skip
  go_big_quiet_skip
  go_big_quiet_skip
  go_big_quiet_skip
  go_big_quiet_skip
  go_big_quiet_skip
  go_big_quiet_skip
  go_big_quiet_skip
  go_big_quiet_skip
  refine no_implicit_lambda% (wpQuiet_val (.bool true) rfl (fun W' hW' => ?_) ?_)
  · obtain ⟨i1, i2, i3, i4, i5, i6, i7, i8, i9⟩ := HKS.out W' _ hW'
    go_simp
  simp only [Act.put, List.setIfInBounds_toArray, List.set_cons_succ, List.set_cons_zero]
  refine no_implicit_lambda% (wpQuiet_move (.tmp 69) (.bool true) rfl rfl (by kernel_rfl) ?_)
  simp only [Act.put, List.setIfInBounds_toArray, List.set_cons_succ, List.set_cons_zero]
  go_big_quiet_skip
  go_big_quiet_skip
  go_big_quiet_skip
  go_big_quiet_skip
  go_big_quiet_skip
  go_big_quiet_skip
  go_big_quiet_skip
  go_big_quiet_skip
  go_big_quiet_skip
  go_big_quiet_skip
  go_big_quiet_skip
  go_big_quiet_skip
  go_big_quiet_skip
  go_big_quiet_skip
  go_big_quiet_skip
  go_big_quiet_skip
  go_big_quiet_skip
  refine no_implicit_lambda% (wpQuiet_val (.bool true) rfl (fun W' hW' => ?_) ?_)
  · obtain ⟨i1, i2, i3, i4, i5, i6, i7, i8, i9⟩ := HKS.out W' _ hW'
    go_simp
  simp only [Act.put, List.setIfInBounds_toArray, List.set_cons_succ, List.set_cons_zero]
  refine no_implicit_lambda% (wpQuiet_end ?_)
  intro w5 hw5
  have H5 := Lib.hid hw5
  clear hw5 H4
  have k00 := H5.out.cell (k := 0) (i := 0) rfl rfl
  have k01 := H5.out.cell (k := 0) (i := 1) rfl rfl
  have k02 := H5.out.cell (k := 0) (i := 2) rfl rfl
  have k10 := H5.out.cell (k := 1) (i := 0) rfl rfl
  have k11 := H5.out.cell (k := 1) (i := 1) rfl rfl
  have k12 := H5.out.cell (k := 1) (i := 2) rfl rfl
  have k20 := H5.out.cell (k := 2) (i := 0) rfl rfl
  have k21 := H5.out.cell (k := 2) (i := 1) rfl rfl
  have k22 := H5.out.cell (k := 2) (i := 2) rfl rfl
  have f10 := H5.out.frozen (k := 1) rfl 0
  have f11 := H5.out.frozen (k := 1) rfl 1
  have f12 := H5.out.frozen (k := 1) rfl 2
  have f20 := H5.out.frozen (k := 2) rfl 0
  have f21 := H5.out.frozen (k := 2) rfl 1
  have f22 := H5.out.frozen (k := 2) rfl 2
  have H9 := ((((((H5.out.set (k := 1) rfl 0 (.slice none 0 0)).set (k := 1) rfl 1 (.slice none 0 0)).set (k := 1) rfl 2 (.int .i64 0)).set (k := 2) rfl 0 (.slice none 0 0)).set (k := 2) rfl 1 (.slice none 0 0)).set (k := 2) rfl 2 (.int .i64 0))
  have hF10 := H9.cell (k := 1) (i := 0) rfl rfl
  have hF11 := H9.cell (k := 1) (i := 1) rfl rfl
  have hF12 := H9.cell (k := 1) (i := 2) rfl rfl
  have hF20 := H9.cell (k := 2) (i := 0) rfl rfl
  have hF21 := H9.cell (k := 2) (i := 1) rfl rfl
  have hF22 := H9.cell (k := 2) (i := 2) rfl rfl
  have Hfin := Lib.hid H9
  clear H9
  go_wp2_with fail
  refine bodyPost_ret (v := .tuple #[.agg #[.slice none 0 0, .slice none 0 0, .int .i64 0], .agg #[.slice none 0 0, .slice none 0 0, .int .i64 0], .int .i64 6]) (by simp [results, Try.results21, go_sem, hF10, hF11, hF12, hF20, hF21, hF22]) rfl ?_
  exact ⟨rfl, Hfin.out.below⟩
set_option maxRecDepth 100000 in
set_option maxHeartbeats 4000000 in
theorem factor_move_b (S M : List Int) (L : Int) (aS aM : Option Addr) (cS cM : Nat) (x y : Nat) (w : World) (hv : vldB S M L = true) (hx : x < 4 * S.length) (hy : y < 4 * S.length) (hox : outB S x = true) (hoy : outB S y = true) (hxy : x ≠ y) (hf : (nth (leftL M S.length) x == nth (leftL M S.length) y) = false) (hS : IntsAt w aS S) (hM : IntsAt w aM M) :
    Calls Try.prog 21 #[.agg #[.slice aS S.length cS, .slice aM M.length cM, .int .i64 L], .int .i64 (x : Int), .int .i64 (y : Int)] w fun e w' => e = .returned (.tuple #[.agg #[.slice none 0 0, .slice none 0 0, .int .i64 0], .agg #[.slice none 0 0, .slice none 0 0, .int .i64 0], .int .i64 6]) ∧ Below w.heap.size w w' := by
  have hs := vldB_shape hv
  have hfw := hs.few
  have hml := hs.len
  have HV : Hid (∀ W', Below w.heap.size w W' → Calls Try.prog 26 #[.agg #[.slice aS S.length cS, .slice aM M.length cM, .int .i64 L]] W' fun e w' => e = .returned (.bool true) ∧ Below W'.heap.size W' w') := Lib.hid fun W' h => by
    have g := valid_any S M L aS aM cS cM W' (by omega) (by omega) (hS.later h) (hM.later h)
    rw [hv] at g; exact g
  have HF : Hid (∀ W', Below w.heap.size w W' → Calls Try.prog 58 #[.agg #[.slice aS S.length cS, .slice aM M.length cM, .int .i64 L]] W' fun e w' => ∃ a c, e = .returned (.slice a (4 * S.length) c) ∧ Own w' W'.heap.size 3 a c (ints (leftL M S.length)) ∧ Below W'.heap.size W' w') := Lib.hid fun W' h => left_any S M L aS aM cS cM W' hv (hS.later h) (hM.later h)
  have HX : Hid (∀ W', Below w.heap.size w W' → Calls Try.prog 57 #[.agg #[.slice aS S.length cS, .slice aM M.length cM, .int .i64 L], .int .i64 (x : Int)] W' fun e w' => e = .returned (.bool true) ∧ Below W'.heap.size W' w') := Lib.hid fun W' hb => by
    have g := coutgoing_any S M L aS aM cS cM x W' (by omega) (by omega) (hS.later hb)
    rw [hox] at g; exact g
  have HY : Hid (∀ W', Below w.heap.size w W' → Calls Try.prog 57 #[.agg #[.slice aS S.length cS, .slice aM M.length cM, .int .i64 L], .int .i64 (y : Int)] W' fun e w' => e = .returned (.bool true) ∧ Below W'.heap.size W' w') := Lib.hid fun W' hb => by
    have g := coutgoing_any S M L aS aM cS cM y W' (by omega) (by omega) (hS.later hb)
    rw [hoy] at g; exact g
  obtain ⟨p, hp, hpv, hpm⟩ : ∃ p : Nat, p < 4 * S.length ∧ nth M x = (p : Int) ∧ mt M x = p := ⟨mt M x, hs.mt_lt hx, by have := hs.range x hx; unfold mt; omega, rfl⟩
  obtain ⟨q, hq, hqv, hqm⟩ : ∃ q : Nat, q < 4 * S.length ∧ nth M y = (q : Int) ∧ mt M y = q := ⟨mt M y, hs.mt_lt hy, by have := hs.range y hy; unfold mt; omega, rfl⟩
  have hFl : (leftL M S.length).length = 4 * S.length := leftTo_len _ _ _
  have hN : M.length ≤ 256 := by omega
  rw [← hml] at HF hFl hx hy hp hq
  obtain ⟨bM, oM, rfl, _, hcM⟩ := hM.open (by omega)
  have HM := Lib.hid hM
  have H0 := Lib.hid ((((HH.start w).alloc #[.slice aS S.length cS, .slice (some ⟨bM, oM, none⟩) M.length cM, .int .i64 L] 24 rfl rfl).alloc #[.slice none 0 0, .slice none 0 0, .int .i64 0] 24 (b := w.heap.size + 1) (by simp) rfl).alloc #[.slice none 0 0, .slice none 0 0, .int .i64 0] 24 (b := w.heap.size + 2) (by simp) rfl)
  generalize leftL M S.length = F at *
  have d1 : decide ((x : Int) < 0) = false := decide_eq_false (by omega)
  have d2 : decide ((y : Int) < 0) = false := decide_eq_false (by omega)
  have d3 : decide (M.length ≤ x) = false := decide_eq_false (by omega)
  have d4 : decide (M.length ≤ y) = false := decide_eq_false (by omega)
  have d5 : decide ((M.length : Int) ≤ (x : Int)) = false := decide_eq_false (by omega)
  have d6 : decide ((M.length : Int) ≤ (y : Int)) = false := decide_eq_false (by omega)
  clear hs hml hS hM hv hcM hpm hqm hox hoy
  generalize S.length = n at *
  obtain ⟨N, hNe⟩ : ∃ N, N = M.length := ⟨_, rfl⟩
  have HNe := Lib.hid hNe
  rw [← hNe] at hx hy hp hq hFl hN HV HF HX HY H0 d3 d4 d5 d6
  rw [← hNe]
  clear hNe
  go_enter Try.func21, Try.ntmps21
  go_wp2_with fail
  refine (HV.out _ H0.out.below).mono ?_
  rintro e w1 ⟨rfl, hb⟩
  have H1 := Lib.hid (H0.out.call hb)
  clear hb H0 HV
  have k00 := H1.out.cell (k := 0) (i := 0) rfl rfl
  have k01 := H1.out.cell (k := 0) (i := 1) rfl rfl
  have k02 := H1.out.cell (k := 0) (i := 2) rfl rfl
  have k10 := H1.out.cell (k := 1) (i := 0) rfl rfl
  have k11 := H1.out.cell (k := 1) (i := 1) rfl rfl
  have k12 := H1.out.cell (k := 1) (i := 2) rfl rfl
  have k20 := H1.out.cell (k := 2) (i := 0) rfl rfl
  have k21 := H1.out.cell (k := 2) (i := 1) rfl rfl
  have k22 := H1.out.cell (k := 2) (i := 2) rfl rfl
  go_wp2_with fail
  clear k00 k01 k02 k10 k11 k12 k20 k21 k22
  refine (HX.out _ H1.out.below).mono ?_
  rintro e w2 ⟨rfl, hb⟩
  have H2 := Lib.hid (H1.out.call hb)
  clear hb H1 HX
  have k00 := H2.out.cell (k := 0) (i := 0) rfl rfl
  have k01 := H2.out.cell (k := 0) (i := 1) rfl rfl
  have k02 := H2.out.cell (k := 0) (i := 2) rfl rfl
  have k10 := H2.out.cell (k := 1) (i := 0) rfl rfl
  have k11 := H2.out.cell (k := 1) (i := 1) rfl rfl
  have k12 := H2.out.cell (k := 1) (i := 2) rfl rfl
  have k20 := H2.out.cell (k := 2) (i := 0) rfl rfl
  have k21 := H2.out.cell (k := 2) (i := 1) rfl rfl
  have k22 := H2.out.cell (k := 2) (i := 2) rfl rfl
  go_wp2_with fail
  clear k00 k01 k02 k10 k11 k12 k20 k21 k22
  refine (HY.out _ H2.out.below).mono ?_
  rintro e w3 ⟨rfl, hb⟩
  have H3 := Lib.hid (H2.out.call hb)
  clear hb H2 HY
  have k00 := H3.out.cell (k := 0) (i := 0) rfl rfl
  have k01 := H3.out.cell (k := 0) (i := 1) rfl rfl
  have k02 := H3.out.cell (k := 0) (i := 2) rfl rfl
  have k10 := H3.out.cell (k := 1) (i := 0) rfl rfl
  have k11 := H3.out.cell (k := 1) (i := 1) rfl rfl
  have k12 := H3.out.cell (k := 1) (i := 2) rfl rfl
  have k20 := H3.out.cell (k := 2) (i := 0) rfl rfl
  have k21 := H3.out.cell (k := 2) (i := 1) rfl rfl
  have k22 := H3.out.cell (k := 2) (i := 2) rfl rfl
  go_wp2_with fail
  clear k00 k01 k02 k10 k11 k12 k20 k21 k22
  refine (HF.out _ H3.out.below).mono ?_
  rintro e w4 ⟨aF, cF, rfl, ho, hb⟩
  have H4 := Lib.hid (H3.out.addSl hb ho)
  clear hb ho H3 HF
  obtain ⟨bF, oF, rfl, _, _, _, _⟩ := (H4.out.sl (k := 0) rfl).open (by show 0 < (ints F).length; rw [ints_length]; omega)
  obtain ⟨fx, hfx⟩ : ∃ u, u = nth F x := ⟨_, rfl⟩
  obtain ⟨fy, hfy⟩ : ∃ u, u = nth F y := ⟨_, rfl⟩
  obtain ⟨fp, hfp⟩ : ∃ u, u = nth F p := ⟨_, rfl⟩
  obtain ⟨fq, hfq⟩ : ∃ u, u = nth F q := ⟨_, rfl⟩
  have HKS : Hid (∀ (W' : World) (z : List SlO), HH w W' [(w.heap.size, rowO 24 [.slice aS n cS, .slice (some ⟨bM, oM, none⟩) N cM, .int .i64 L]), (w.heap.size + 1, rowO 24 [.slice none 0 0, .slice none 0 0, .int .i64 0]), (w.heap.size + 2, rowO 24 [.slice none 0 0, .slice none 0 0, .int .i64 0])] (⟨some ⟨bF, oF, none⟩, cF, 3, ints F⟩ :: z) → W'.cell? ⟨w.heap.size, 0, none⟩ = some (.slice aS n cS) ∧ W'.cell? ⟨w.heap.size, 1, none⟩ = some (.slice (some ⟨bM, oM, none⟩) N cM) ∧ W'.cell? ⟨w.heap.size, 2, none⟩ = some (.int .i64 L) ∧ W'.cell? ⟨bM, oM + x, none⟩ = some (.int .i64 (p : Int)) ∧ W'.cell? ⟨bM, oM + y, none⟩ = some (.int .i64 (q : Int)) ∧ W'.cell? ⟨bF, oF + x, none⟩ = some (.int .i64 fx) ∧ W'.cell? ⟨bF, oF + y, none⟩ = some (.int .i64 fy) ∧ W'.cell? ⟨bF, oF + p, none⟩ = some (.int .i64 fp) ∧ W'.cell? ⟨bF, oF + q, none⟩ = some (.int .i64 fq)) := Lib.hid fun W' z h => by
    obtain ⟨b9, o9, e9, _, _, hc9, _⟩ := (h.sl (k := 0) rfl).open (by show 0 < (ints F).length; rw [ints_length]; omega)
    cases e9
    obtain ⟨b8, o8, e8, _, hc8⟩ := (HM.out.later h.below).open (by rw [← HNe.out]; omega)
    cases e8
    have m1 := hc8 x (by rw [← HNe.out]; omega)
    have m2 := hc8 y (by rw [← HNe.out]; omega)
    rw [hpv] at m1
    rw [hqv] at m2
    rw [hfx, hfy, hfp, hfq]
    exact ⟨h.cell (k := 0) (i := 0) rfl rfl, h.cell (k := 0) (i := 1) rfl rfl, h.cell (k := 0) (i := 2) rfl rfl, m1, m2, hc9 _ _ (ints_get F x (by omega)), hc9 _ _ (ints_get F y (by omega)), hc9 _ _ (ints_get F p (by omega)), hc9 _ _ (ints_get F q (by omega))⟩
  have e1 : ((x : Int) == (y : Int)) = false := by rw [beq_eq_false_iff_ne]; omega
  rw [← hfx, ← hfy] at hf
  have e2 : (fx != fy) = true := by simp only [bne, hf, Bool.not_false]
  clear hxy hf hfx hfy hfp hfq hpv hqv
  have D1 : decide ((p : Int) < 0) = false := decide_eq_false (by omega)
  have D2 : decide ((q : Int) < 0) = false := decide_eq_false (by omega)
  go_wp2_with fail
  refine wp_region_class (fun W => HH w W [(w.heap.size, rowO 24 [.slice aS n cS, .slice (some ⟨bM, oM, none⟩) N cM, .int .i64 L]), (w.heap.size + 1, rowO 24 [.slice none 0 0, .slice none 0 0, .int .i64 0]), (w.heap.size + 2, rowO 24 [.slice none 0 0, .slice none 0 0, .int .i64 0])] [⟨some ⟨bF, oF, none⟩, cF, 3, ints F⟩]) (by kernel_rfl) (by kernel_rfl) H4.out.drew ?_
  refine no_implicit_lambda% (wpQuiet_move (.tmp 1) (.int .i64 (x : Int)) rfl rfl (by kernel_rfl) ?_)
  simp only [Act.put, List.setIfInBounds_toArray, List.set_cons_succ, List.set_cons_zero]
  refine no_implicit_lambda% (wpQuiet_move (.tmp 2) (.int .i64 (y : Int)) rfl rfl (by kernel_rfl) ?_)
  simp only [Act.put, List.setIfInBounds_toArray, List.set_cons_succ, List.set_cons_zero]
  refine no_implicit_lambda% (wpQuiet_val (.bool false) rfl (fun W' hW' => ?_) ?_)
  · obtain ⟨i1, i2, i3, i4, i5, i6, i7, i8, i9⟩ := HKS.out W' _ hW'
    go_simp
  simp only [Act.put, List.setIfInBounds_toArray, List.set_cons_succ, List.set_cons_zero]
  refine no_implicit_lambda% (wpQuiet_move (.tmp 58) (.bool false) rfl rfl (by kernel_rfl) ?_)
  simp only [Act.put, List.setIfInBounds_toArray, List.set_cons_succ, List.set_cons_zero]
  refine no_implicit_lambda% (wpQuietW_move (.tmp 10) (.slice (some ⟨bF, oF, none⟩) N cF) (by kernel_rfl) rfl (by kernel_rfl) ?_)
  simp only [Act.put, List.setIfInBounds_toArray, List.set_cons_succ, List.set_cons_zero]
  refine no_implicit_lambda% (wpQuietW_move (.tmp 1) (.int .i64 (x : Int)) (by kernel_rfl) rfl (by kernel_rfl) ?_)
  simp only [Act.put, List.setIfInBounds_toArray, List.set_cons_succ, List.set_cons_zero]
  refine no_implicit_lambda% (wpQuietW_val (.pointer (some ⟨bF, oF + x, none⟩)) (by kernel_rfl) (fun W' hW' => ?_) ?_)
  · obtain ⟨i1, i2, i3, i4, i5, i6, i7, i8, i9⟩ := HKS.out W' _ hW'
    go_simp
  simp only [Act.put, List.setIfInBounds_toArray, List.set_cons_succ, List.set_cons_zero]
  refine no_implicit_lambda% (wpQuietW_val (.int .i64 (fx)) (by kernel_rfl) (fun W' hW' => ?_) ?_)
  · obtain ⟨i1, i2, i3, i4, i5, i6, i7, i8, i9⟩ := HKS.out W' _ hW'
    go_simp
  simp only [Act.put, List.setIfInBounds_toArray, List.set_cons_succ, List.set_cons_zero]
  refine no_implicit_lambda% (wpQuietW_move (.tmp 10) (.slice (some ⟨bF, oF, none⟩) N cF) (by kernel_rfl) rfl (by kernel_rfl) ?_)
  simp only [Act.put, List.setIfInBounds_toArray, List.set_cons_succ, List.set_cons_zero]
  refine no_implicit_lambda% (wpQuietW_move (.tmp 2) (.int .i64 (y : Int)) (by kernel_rfl) rfl (by kernel_rfl) ?_)
  simp only [Act.put, List.setIfInBounds_toArray, List.set_cons_succ, List.set_cons_zero]
  refine no_implicit_lambda% (wpQuietW_val (.pointer (some ⟨bF, oF + y, none⟩)) (by kernel_rfl) (fun W' hW' => ?_) ?_)
  · obtain ⟨i1, i2, i3, i4, i5, i6, i7, i8, i9⟩ := HKS.out W' _ hW'
    go_simp
  simp only [Act.put, List.setIfInBounds_toArray, List.set_cons_succ, List.set_cons_zero]
  refine no_implicit_lambda% (wpQuietW_val (.int .i64 (fy)) (by kernel_rfl) (fun W' hW' => ?_) ?_)
  · obtain ⟨i1, i2, i3, i4, i5, i6, i7, i8, i9⟩ := HKS.out W' _ hW'
    go_simp
  simp only [Act.put, List.setIfInBounds_toArray, List.set_cons_succ, List.set_cons_zero]
  refine no_implicit_lambda% (wpQuietW_val (.bool true) (by kernel_rfl) (fun W' hW' => ?_) ?_)
  · obtain ⟨i1, i2, i3, i4, i5, i6, i7, i8, i9⟩ := HKS.out W' _ hW'
    go_simp
  simp only [Act.put, List.setIfInBounds_toArray, List.set_cons_succ, List.set_cons_zero]
  refine no_implicit_lambda% (wpQuiet_val (.bool true) rfl (fun W' hW' => ?_) ?_)
  · obtain ⟨i1, i2, i3, i4, i5, i6, i7, i8, i9⟩ := HKS.out W' _ hW'
    go_simp
  simp only [Act.put, List.setIfInBounds_toArray, List.set_cons_succ, List.set_cons_zero]
  refine no_implicit_lambda% (wpQuiet_move (.tmp 69) (.bool true) rfl rfl (by kernel_rfl) ?_)
  simp only [Act.put, List.setIfInBounds_toArray, List.set_cons_succ, List.set_cons_zero]
  go_big_quiet_skip
  go_big_quiet_skip
  go_big_quiet_skip
  go_big_quiet_skip
  go_big_quiet_skip
  go_big_quiet_skip
  go_big_quiet_skip
  go_big_quiet_skip
  go_big_quiet_skip
  go_big_quiet_skip
  go_big_quiet_skip
  go_big_quiet_skip
  go_big_quiet_skip
  go_big_quiet_skip
  go_big_quiet_skip
  go_big_quiet_skip
  go_big_quiet_skip
  refine no_implicit_lambda% (wpQuiet_val (.bool true) rfl (fun W' hW' => ?_) ?_)
  · obtain ⟨i1, i2, i3, i4, i5, i6, i7, i8, i9⟩ := HKS.out W' _ hW'
    go_simp
  simp only [Act.put, List.setIfInBounds_toArray, List.set_cons_succ, List.set_cons_zero]
  refine no_implicit_lambda% (wpQuiet_end ?_)
  intro w5 hw5
  have H5 := Lib.hid hw5
  clear hw5 H4
  have k00 := H5.out.cell (k := 0) (i := 0) rfl rfl
  have k01 := H5.out.cell (k := 0) (i := 1) rfl rfl
  have k02 := H5.out.cell (k := 0) (i := 2) rfl rfl
  have k10 := H5.out.cell (k := 1) (i := 0) rfl rfl
  have k11 := H5.out.cell (k := 1) (i := 1) rfl rfl
  have k12 := H5.out.cell (k := 1) (i := 2) rfl rfl
  have k20 := H5.out.cell (k := 2) (i := 0) rfl rfl
  have k21 := H5.out.cell (k := 2) (i := 1) rfl rfl
  have k22 := H5.out.cell (k := 2) (i := 2) rfl rfl
  have f10 := H5.out.frozen (k := 1) rfl 0
  have f11 := H5.out.frozen (k := 1) rfl 1
  have f12 := H5.out.frozen (k := 1) rfl 2
  have f20 := H5.out.frozen (k := 2) rfl 0
  have f21 := H5.out.frozen (k := 2) rfl 1
  have f22 := H5.out.frozen (k := 2) rfl 2
  have H9 := ((((((H5.out.set (k := 1) rfl 0 (.slice none 0 0)).set (k := 1) rfl 1 (.slice none 0 0)).set (k := 1) rfl 2 (.int .i64 0)).set (k := 2) rfl 0 (.slice none 0 0)).set (k := 2) rfl 1 (.slice none 0 0)).set (k := 2) rfl 2 (.int .i64 0))
  have hF10 := H9.cell (k := 1) (i := 0) rfl rfl
  have hF11 := H9.cell (k := 1) (i := 1) rfl rfl
  have hF12 := H9.cell (k := 1) (i := 2) rfl rfl
  have hF20 := H9.cell (k := 2) (i := 0) rfl rfl
  have hF21 := H9.cell (k := 2) (i := 1) rfl rfl
  have hF22 := H9.cell (k := 2) (i := 2) rfl rfl
  have Hfin := Lib.hid H9
  clear H9
  go_wp2_with fail
  refine bodyPost_ret (v := .tuple #[.agg #[.slice none 0 0, .slice none 0 0, .int .i64 0], .agg #[.slice none 0 0, .slice none 0 0, .int .i64 0], .int .i64 6]) (by simp [results, Try.results21, go_sem, hF10, hF11, hF12, hF20, hF21, hF22]) rfl ?_
  exact ⟨rfl, Hfin.out.below⟩
set_option maxRecDepth 100000 in
set_option maxHeartbeats 4000000 in
theorem factor_move_c (S M : List Int) (L : Int) (aS aM : Option Addr) (cS cM : Nat) (x y : Nat) (w : World) (hv : vldB S M L = true) (hx : x < 4 * S.length) (hy : y < 4 * S.length) (hox : outB S x = true) (hoy : outB S y = true) (hxy : x ≠ y) (hf : (nth (leftL M S.length) x == nth (leftL M S.length) y) = true) (hg : (nth (leftL M S.length) (mt M x) == nth (leftL M S.length) (mt M y)) = false) (hS : IntsAt w aS S) (hM : IntsAt w aM M) :
    Calls Try.prog 21 #[.agg #[.slice aS S.length cS, .slice aM M.length cM, .int .i64 L], .int .i64 (x : Int), .int .i64 (y : Int)] w fun e w' => e = .returned (.tuple #[.agg #[.slice none 0 0, .slice none 0 0, .int .i64 0], .agg #[.slice none 0 0, .slice none 0 0, .int .i64 0], .int .i64 6]) ∧ Below w.heap.size w w' := by
  have hs := vldB_shape hv
  have hfw := hs.few
  have hml := hs.len
  have HV : Hid (∀ W', Below w.heap.size w W' → Calls Try.prog 26 #[.agg #[.slice aS S.length cS, .slice aM M.length cM, .int .i64 L]] W' fun e w' => e = .returned (.bool true) ∧ Below W'.heap.size W' w') := Lib.hid fun W' h => by
    have g := valid_any S M L aS aM cS cM W' (by omega) (by omega) (hS.later h) (hM.later h)
    rw [hv] at g; exact g
  have HF : Hid (∀ W', Below w.heap.size w W' → Calls Try.prog 58 #[.agg #[.slice aS S.length cS, .slice aM M.length cM, .int .i64 L]] W' fun e w' => ∃ a c, e = .returned (.slice a (4 * S.length) c) ∧ Own w' W'.heap.size 3 a c (ints (leftL M S.length)) ∧ Below W'.heap.size W' w') := Lib.hid fun W' h => left_any S M L aS aM cS cM W' hv (hS.later h) (hM.later h)
  have HX : Hid (∀ W', Below w.heap.size w W' → Calls Try.prog 57 #[.agg #[.slice aS S.length cS, .slice aM M.length cM, .int .i64 L], .int .i64 (x : Int)] W' fun e w' => e = .returned (.bool true) ∧ Below W'.heap.size W' w') := Lib.hid fun W' hb => by
    have g := coutgoing_any S M L aS aM cS cM x W' (by omega) (by omega) (hS.later hb)
    rw [hox] at g; exact g
  have HY : Hid (∀ W', Below w.heap.size w W' → Calls Try.prog 57 #[.agg #[.slice aS S.length cS, .slice aM M.length cM, .int .i64 L], .int .i64 (y : Int)] W' fun e w' => e = .returned (.bool true) ∧ Below W'.heap.size W' w') := Lib.hid fun W' hb => by
    have g := coutgoing_any S M L aS aM cS cM y W' (by omega) (by omega) (hS.later hb)
    rw [hoy] at g; exact g
  obtain ⟨p, hp, hpv, hpm⟩ : ∃ p : Nat, p < 4 * S.length ∧ nth M x = (p : Int) ∧ mt M x = p := ⟨mt M x, hs.mt_lt hx, by have := hs.range x hx; unfold mt; omega, rfl⟩
  obtain ⟨q, hq, hqv, hqm⟩ : ∃ q : Nat, q < 4 * S.length ∧ nth M y = (q : Int) ∧ mt M y = q := ⟨mt M y, hs.mt_lt hy, by have := hs.range y hy; unfold mt; omega, rfl⟩
  have hFl : (leftL M S.length).length = 4 * S.length := leftTo_len _ _ _
  have hN : M.length ≤ 256 := by omega
  rw [← hml] at HF hFl hx hy hp hq
  obtain ⟨bM, oM, rfl, _, hcM⟩ := hM.open (by omega)
  have HM := Lib.hid hM
  rw [hpm, hqm] at hg
  have H0 := Lib.hid ((((HH.start w).alloc #[.slice aS S.length cS, .slice (some ⟨bM, oM, none⟩) M.length cM, .int .i64 L] 24 rfl rfl).alloc #[.slice none 0 0, .slice none 0 0, .int .i64 0] 24 (b := w.heap.size + 1) (by simp) rfl).alloc #[.slice none 0 0, .slice none 0 0, .int .i64 0] 24 (b := w.heap.size + 2) (by simp) rfl)
  generalize leftL M S.length = F at *
  have d1 : decide ((x : Int) < 0) = false := decide_eq_false (by omega)
  have d2 : decide ((y : Int) < 0) = false := decide_eq_false (by omega)
  have d3 : decide (M.length ≤ x) = false := decide_eq_false (by omega)
  have d4 : decide (M.length ≤ y) = false := decide_eq_false (by omega)
  have d5 : decide ((M.length : Int) ≤ (x : Int)) = false := decide_eq_false (by omega)
  have d6 : decide ((M.length : Int) ≤ (y : Int)) = false := decide_eq_false (by omega)
  clear hs hml hS hM hv hcM hpm hqm hox hoy
  generalize S.length = n at *
  obtain ⟨N, hNe⟩ : ∃ N, N = M.length := ⟨_, rfl⟩
  have HNe := Lib.hid hNe
  rw [← hNe] at hx hy hp hq hFl hN HV HF HX HY H0 d3 d4 d5 d6
  rw [← hNe]
  clear hNe
  go_enter Try.func21, Try.ntmps21
  go_wp2_with fail
  refine (HV.out _ H0.out.below).mono ?_
  rintro e w1 ⟨rfl, hb⟩
  have H1 := Lib.hid (H0.out.call hb)
  clear hb H0 HV
  have k00 := H1.out.cell (k := 0) (i := 0) rfl rfl
  have k01 := H1.out.cell (k := 0) (i := 1) rfl rfl
  have k02 := H1.out.cell (k := 0) (i := 2) rfl rfl
  have k10 := H1.out.cell (k := 1) (i := 0) rfl rfl
  have k11 := H1.out.cell (k := 1) (i := 1) rfl rfl
  have k12 := H1.out.cell (k := 1) (i := 2) rfl rfl
  have k20 := H1.out.cell (k := 2) (i := 0) rfl rfl
  have k21 := H1.out.cell (k := 2) (i := 1) rfl rfl
  have k22 := H1.out.cell (k := 2) (i := 2) rfl rfl
  go_wp2_with fail
  clear k00 k01 k02 k10 k11 k12 k20 k21 k22
  refine (HX.out _ H1.out.below).mono ?_
  rintro e w2 ⟨rfl, hb⟩
  have H2 := Lib.hid (H1.out.call hb)
  clear hb H1 HX
  have k00 := H2.out.cell (k := 0) (i := 0) rfl rfl
  have k01 := H2.out.cell (k := 0) (i := 1) rfl rfl
  have k02 := H2.out.cell (k := 0) (i := 2) rfl rfl
  have k10 := H2.out.cell (k := 1) (i := 0) rfl rfl
  have k11 := H2.out.cell (k := 1) (i := 1) rfl rfl
  have k12 := H2.out.cell (k := 1) (i := 2) rfl rfl
  have k20 := H2.out.cell (k := 2) (i := 0) rfl rfl
  have k21 := H2.out.cell (k := 2) (i := 1) rfl rfl
  have k22 := H2.out.cell (k := 2) (i := 2) rfl rfl
  go_wp2_with fail
  clear k00 k01 k02 k10 k11 k12 k20 k21 k22
  refine (HY.out _ H2.out.below).mono ?_
  rintro e w3 ⟨rfl, hb⟩
  have H3 := Lib.hid (H2.out.call hb)
  clear hb H2 HY
  have k00 := H3.out.cell (k := 0) (i := 0) rfl rfl
  have k01 := H3.out.cell (k := 0) (i := 1) rfl rfl
  have k02 := H3.out.cell (k := 0) (i := 2) rfl rfl
  have k10 := H3.out.cell (k := 1) (i := 0) rfl rfl
  have k11 := H3.out.cell (k := 1) (i := 1) rfl rfl
  have k12 := H3.out.cell (k := 1) (i := 2) rfl rfl
  have k20 := H3.out.cell (k := 2) (i := 0) rfl rfl
  have k21 := H3.out.cell (k := 2) (i := 1) rfl rfl
  have k22 := H3.out.cell (k := 2) (i := 2) rfl rfl
  go_wp2_with fail
  clear k00 k01 k02 k10 k11 k12 k20 k21 k22
  refine (HF.out _ H3.out.below).mono ?_
  rintro e w4 ⟨aF, cF, rfl, ho, hb⟩
  have H4 := Lib.hid (H3.out.addSl hb ho)
  clear hb ho H3 HF
  obtain ⟨bF, oF, rfl, _, _, _, _⟩ := (H4.out.sl (k := 0) rfl).open (by show 0 < (ints F).length; rw [ints_length]; omega)
  obtain ⟨fx, hfx⟩ : ∃ u, u = nth F x := ⟨_, rfl⟩
  obtain ⟨fy, hfy⟩ : ∃ u, u = nth F y := ⟨_, rfl⟩
  obtain ⟨fp, hfp⟩ : ∃ u, u = nth F p := ⟨_, rfl⟩
  obtain ⟨fq, hfq⟩ : ∃ u, u = nth F q := ⟨_, rfl⟩
  have HKS : Hid (∀ (W' : World) (z : List SlO), HH w W' [(w.heap.size, rowO 24 [.slice aS n cS, .slice (some ⟨bM, oM, none⟩) N cM, .int .i64 L]), (w.heap.size + 1, rowO 24 [.slice none 0 0, .slice none 0 0, .int .i64 0]), (w.heap.size + 2, rowO 24 [.slice none 0 0, .slice none 0 0, .int .i64 0])] (⟨some ⟨bF, oF, none⟩, cF, 3, ints F⟩ :: z) → W'.cell? ⟨w.heap.size, 0, none⟩ = some (.slice aS n cS) ∧ W'.cell? ⟨w.heap.size, 1, none⟩ = some (.slice (some ⟨bM, oM, none⟩) N cM) ∧ W'.cell? ⟨w.heap.size, 2, none⟩ = some (.int .i64 L) ∧ W'.cell? ⟨bM, oM + x, none⟩ = some (.int .i64 (p : Int)) ∧ W'.cell? ⟨bM, oM + y, none⟩ = some (.int .i64 (q : Int)) ∧ W'.cell? ⟨bF, oF + x, none⟩ = some (.int .i64 fx) ∧ W'.cell? ⟨bF, oF + y, none⟩ = some (.int .i64 fy) ∧ W'.cell? ⟨bF, oF + p, none⟩ = some (.int .i64 fp) ∧ W'.cell? ⟨bF, oF + q, none⟩ = some (.int .i64 fq)) := Lib.hid fun W' z h => by
    obtain ⟨b9, o9, e9, _, _, hc9, _⟩ := (h.sl (k := 0) rfl).open (by show 0 < (ints F).length; rw [ints_length]; omega)
    cases e9
    obtain ⟨b8, o8, e8, _, hc8⟩ := (HM.out.later h.below).open (by rw [← HNe.out]; omega)
    cases e8
    have m1 := hc8 x (by rw [← HNe.out]; omega)
    have m2 := hc8 y (by rw [← HNe.out]; omega)
    rw [hpv] at m1
    rw [hqv] at m2
    rw [hfx, hfy, hfp, hfq]
    exact ⟨h.cell (k := 0) (i := 0) rfl rfl, h.cell (k := 0) (i := 1) rfl rfl, h.cell (k := 0) (i := 2) rfl rfl, m1, m2, hc9 _ _ (ints_get F x (by omega)), hc9 _ _ (ints_get F y (by omega)), hc9 _ _ (ints_get F p (by omega)), hc9 _ _ (ints_get F q (by omega))⟩
  have e1 : ((x : Int) == (y : Int)) = false := by rw [beq_eq_false_iff_ne]; omega
  rw [← hfx, ← hfy] at hf
  have e2 : (fx != fy) = false := by simp only [bne, hf, Bool.not_true]
  rw [← hfp, ← hfq] at hg
  have e3 : (fp != fq) = true := by simp only [bne, hg, Bool.not_false]
  clear hxy hf hfx hfy hfp hfq hpv hqv
  have D1 : decide ((p : Int) < 0) = false := decide_eq_false (by omega)
  have D2 : decide ((q : Int) < 0) = false := decide_eq_false (by omega)
  go_wp2_with fail
  refine wp_region_class (fun W => HH w W [(w.heap.size, rowO 24 [.slice aS n cS, .slice (some ⟨bM, oM, none⟩) N cM, .int .i64 L]), (w.heap.size + 1, rowO 24 [.slice none 0 0, .slice none 0 0, .int .i64 0]), (w.heap.size + 2, rowO 24 [.slice none 0 0, .slice none 0 0, .int .i64 0])] [⟨some ⟨bF, oF, none⟩, cF, 3, ints F⟩]) (by kernel_rfl) (by kernel_rfl) H4.out.drew ?_
  refine no_implicit_lambda% (wpQuiet_move (.tmp 1) (.int .i64 (x : Int)) rfl rfl (by kernel_rfl) ?_)
  simp only [Act.put, List.setIfInBounds_toArray, List.set_cons_succ, List.set_cons_zero]
  refine no_implicit_lambda% (wpQuiet_move (.tmp 2) (.int .i64 (y : Int)) rfl rfl (by kernel_rfl) ?_)
  simp only [Act.put, List.setIfInBounds_toArray, List.set_cons_succ, List.set_cons_zero]
  refine no_implicit_lambda% (wpQuiet_val (.bool false) rfl (fun W' hW' => ?_) ?_)
  · obtain ⟨i1, i2, i3, i4, i5, i6, i7, i8, i9⟩ := HKS.out W' _ hW'
    go_simp
  simp only [Act.put, List.setIfInBounds_toArray, List.set_cons_succ, List.set_cons_zero]
  refine no_implicit_lambda% (wpQuiet_move (.tmp 58) (.bool false) rfl rfl (by kernel_rfl) ?_)
  simp only [Act.put, List.setIfInBounds_toArray, List.set_cons_succ, List.set_cons_zero]
  refine no_implicit_lambda% (wpQuietW_move (.tmp 10) (.slice (some ⟨bF, oF, none⟩) N cF) (by kernel_rfl) rfl (by kernel_rfl) ?_)
  simp only [Act.put, List.setIfInBounds_toArray, List.set_cons_succ, List.set_cons_zero]
  refine no_implicit_lambda% (wpQuietW_move (.tmp 1) (.int .i64 (x : Int)) (by kernel_rfl) rfl (by kernel_rfl) ?_)
  simp only [Act.put, List.setIfInBounds_toArray, List.set_cons_succ, List.set_cons_zero]
  refine no_implicit_lambda% (wpQuietW_val (.pointer (some ⟨bF, oF + x, none⟩)) (by kernel_rfl) (fun W' hW' => ?_) ?_)
  · obtain ⟨i1, i2, i3, i4, i5, i6, i7, i8, i9⟩ := HKS.out W' _ hW'
    go_simp
  simp only [Act.put, List.setIfInBounds_toArray, List.set_cons_succ, List.set_cons_zero]
  refine no_implicit_lambda% (wpQuietW_val (.int .i64 (fx)) (by kernel_rfl) (fun W' hW' => ?_) ?_)
  · obtain ⟨i1, i2, i3, i4, i5, i6, i7, i8, i9⟩ := HKS.out W' _ hW'
    go_simp
  simp only [Act.put, List.setIfInBounds_toArray, List.set_cons_succ, List.set_cons_zero]
  refine no_implicit_lambda% (wpQuietW_move (.tmp 10) (.slice (some ⟨bF, oF, none⟩) N cF) (by kernel_rfl) rfl (by kernel_rfl) ?_)
  simp only [Act.put, List.setIfInBounds_toArray, List.set_cons_succ, List.set_cons_zero]
  refine no_implicit_lambda% (wpQuietW_move (.tmp 2) (.int .i64 (y : Int)) (by kernel_rfl) rfl (by kernel_rfl) ?_)
  simp only [Act.put, List.setIfInBounds_toArray, List.set_cons_succ, List.set_cons_zero]
  refine no_implicit_lambda% (wpQuietW_val (.pointer (some ⟨bF, oF + y, none⟩)) (by kernel_rfl) (fun W' hW' => ?_) ?_)
  · obtain ⟨i1, i2, i3, i4, i5, i6, i7, i8, i9⟩ := HKS.out W' _ hW'
    go_simp
  simp only [Act.put, List.setIfInBounds_toArray, List.set_cons_succ, List.set_cons_zero]
  refine no_implicit_lambda% (wpQuietW_val (.int .i64 (fy)) (by kernel_rfl) (fun W' hW' => ?_) ?_)
  · obtain ⟨i1, i2, i3, i4, i5, i6, i7, i8, i9⟩ := HKS.out W' _ hW'
    go_simp
  simp only [Act.put, List.setIfInBounds_toArray, List.set_cons_succ, List.set_cons_zero]
  refine no_implicit_lambda% (wpQuietW_val (.bool false) (by kernel_rfl) (fun W' hW' => ?_) ?_)
  · obtain ⟨i1, i2, i3, i4, i5, i6, i7, i8, i9⟩ := HKS.out W' _ hW'
    go_simp
  simp only [Act.put, List.setIfInBounds_toArray, List.set_cons_succ, List.set_cons_zero]
  refine no_implicit_lambda% (wpQuiet_val (.bool false) rfl (fun W' hW' => ?_) ?_)
  · obtain ⟨i1, i2, i3, i4, i5, i6, i7, i8, i9⟩ := HKS.out W' _ hW'
    go_simp
  simp only [Act.put, List.setIfInBounds_toArray, List.set_cons_succ, List.set_cons_zero]
  refine no_implicit_lambda% (wpQuiet_move (.tmp 69) (.bool false) rfl rfl (by kernel_rfl) ?_)
  simp only [Act.put, List.setIfInBounds_toArray, List.set_cons_succ, List.set_cons_zero]
  refine no_implicit_lambda% (wpQuietW_move (.tmp 10) (.slice (some ⟨bF, oF, none⟩) N cF) (by kernel_rfl) rfl (by kernel_rfl) ?_)
  simp only [Act.put, List.setIfInBounds_toArray, List.set_cons_succ, List.set_cons_zero]
  refine no_implicit_lambda% (wpQuietW_val (.pointer (some ⟨w.heap.size, 1, none⟩)) (by kernel_rfl) (fun W' hW' => ?_) ?_)
  · obtain ⟨i1, i2, i3, i4, i5, i6, i7, i8, i9⟩ := HKS.out W' _ hW'
    go_simp
  simp only [Act.put, List.setIfInBounds_toArray, List.set_cons_succ, List.set_cons_zero]
  refine no_implicit_lambda% (wpQuietW_val (.slice (some ⟨bM, oM, none⟩) N cM) (by kernel_rfl) (fun W' hW' => ?_) ?_)
  · obtain ⟨i1, i2, i3, i4, i5, i6, i7, i8, i9⟩ := HKS.out W' _ hW'
    go_simp
  simp only [Act.put, List.setIfInBounds_toArray, List.set_cons_succ, List.set_cons_zero]
  refine no_implicit_lambda% (wpQuietW_move (.tmp 1) (.int .i64 (x : Int)) (by kernel_rfl) rfl (by kernel_rfl) ?_)
  simp only [Act.put, List.setIfInBounds_toArray, List.set_cons_succ, List.set_cons_zero]
  refine no_implicit_lambda% (wpQuietW_val (.pointer (some ⟨bM, oM + x, none⟩)) (by kernel_rfl) (fun W' hW' => ?_) ?_)
  · obtain ⟨i1, i2, i3, i4, i5, i6, i7, i8, i9⟩ := HKS.out W' _ hW'
    go_simp
  simp only [Act.put, List.setIfInBounds_toArray, List.set_cons_succ, List.set_cons_zero]
  refine no_implicit_lambda% (wpQuietW_val (.int .i64 (p : Int)) (by kernel_rfl) (fun W' hW' => ?_) ?_)
  · obtain ⟨i1, i2, i3, i4, i5, i6, i7, i8, i9⟩ := HKS.out W' _ hW'
    go_simp
  simp only [Act.put, List.setIfInBounds_toArray, List.set_cons_succ, List.set_cons_zero]
  refine no_implicit_lambda% (wpQuietW_val (.pointer (some ⟨bF, oF + p, none⟩)) (by kernel_rfl) (fun W' hW' => ?_) ?_)
  · obtain ⟨i1, i2, i3, i4, i5, i6, i7, i8, i9⟩ := HKS.out W' _ hW'
    go_simp
  simp only [Act.put, List.setIfInBounds_toArray, List.set_cons_succ, List.set_cons_zero]
  refine no_implicit_lambda% (wpQuietW_val (.int .i64 (fp)) (by kernel_rfl) (fun W' hW' => ?_) ?_)
  · obtain ⟨i1, i2, i3, i4, i5, i6, i7, i8, i9⟩ := HKS.out W' _ hW'
    go_simp
  simp only [Act.put, List.setIfInBounds_toArray, List.set_cons_succ, List.set_cons_zero]
  refine no_implicit_lambda% (wpQuietW_move (.tmp 10) (.slice (some ⟨bF, oF, none⟩) N cF) (by kernel_rfl) rfl (by kernel_rfl) ?_)
  simp only [Act.put, List.setIfInBounds_toArray, List.set_cons_succ, List.set_cons_zero]
  refine no_implicit_lambda% (wpQuietW_val (.pointer (some ⟨w.heap.size, 1, none⟩)) (by kernel_rfl) (fun W' hW' => ?_) ?_)
  · obtain ⟨i1, i2, i3, i4, i5, i6, i7, i8, i9⟩ := HKS.out W' _ hW'
    go_simp
  simp only [Act.put, List.setIfInBounds_toArray, List.set_cons_succ, List.set_cons_zero]
  refine no_implicit_lambda% (wpQuietW_val (.slice (some ⟨bM, oM, none⟩) N cM) (by kernel_rfl) (fun W' hW' => ?_) ?_)
  · obtain ⟨i1, i2, i3, i4, i5, i6, i7, i8, i9⟩ := HKS.out W' _ hW'
    go_simp
  simp only [Act.put, List.setIfInBounds_toArray, List.set_cons_succ, List.set_cons_zero]
  refine no_implicit_lambda% (wpQuietW_move (.tmp 2) (.int .i64 (y : Int)) (by kernel_rfl) rfl (by kernel_rfl) ?_)
  simp only [Act.put, List.setIfInBounds_toArray, List.set_cons_succ, List.set_cons_zero]
  refine no_implicit_lambda% (wpQuietW_val (.pointer (some ⟨bM, oM + y, none⟩)) (by kernel_rfl) (fun W' hW' => ?_) ?_)
  · obtain ⟨i1, i2, i3, i4, i5, i6, i7, i8, i9⟩ := HKS.out W' _ hW'
    go_simp
  simp only [Act.put, List.setIfInBounds_toArray, List.set_cons_succ, List.set_cons_zero]
  refine no_implicit_lambda% (wpQuietW_val (.int .i64 (q : Int)) (by kernel_rfl) (fun W' hW' => ?_) ?_)
  · obtain ⟨i1, i2, i3, i4, i5, i6, i7, i8, i9⟩ := HKS.out W' _ hW'
    go_simp
  simp only [Act.put, List.setIfInBounds_toArray, List.set_cons_succ, List.set_cons_zero]
  refine no_implicit_lambda% (wpQuietW_val (.pointer (some ⟨bF, oF + q, none⟩)) (by kernel_rfl) (fun W' hW' => ?_) ?_)
  · obtain ⟨i1, i2, i3, i4, i5, i6, i7, i8, i9⟩ := HKS.out W' _ hW'
    go_simp
  simp only [Act.put, List.setIfInBounds_toArray, List.set_cons_succ, List.set_cons_zero]
  refine no_implicit_lambda% (wpQuietW_val (.int .i64 (fq)) (by kernel_rfl) (fun W' hW' => ?_) ?_)
  · obtain ⟨i1, i2, i3, i4, i5, i6, i7, i8, i9⟩ := HKS.out W' _ hW'
    go_simp
  simp only [Act.put, List.setIfInBounds_toArray, List.set_cons_succ, List.set_cons_zero]
  refine no_implicit_lambda% (wpQuietW_val (.bool true) (by kernel_rfl) (fun W' hW' => ?_) ?_)
  · obtain ⟨i1, i2, i3, i4, i5, i6, i7, i8, i9⟩ := HKS.out W' _ hW'
    go_simp
  simp only [Act.put, List.setIfInBounds_toArray, List.set_cons_succ, List.set_cons_zero]
  refine no_implicit_lambda% (wpQuiet_val (.bool true) rfl (fun W' hW' => ?_) ?_)
  · obtain ⟨i1, i2, i3, i4, i5, i6, i7, i8, i9⟩ := HKS.out W' _ hW'
    go_simp
  simp only [Act.put, List.setIfInBounds_toArray, List.set_cons_succ, List.set_cons_zero]
  refine no_implicit_lambda% (wpQuiet_end ?_)
  intro w5 hw5
  have H5 := Lib.hid hw5
  clear hw5 H4
  have k00 := H5.out.cell (k := 0) (i := 0) rfl rfl
  have k01 := H5.out.cell (k := 0) (i := 1) rfl rfl
  have k02 := H5.out.cell (k := 0) (i := 2) rfl rfl
  have k10 := H5.out.cell (k := 1) (i := 0) rfl rfl
  have k11 := H5.out.cell (k := 1) (i := 1) rfl rfl
  have k12 := H5.out.cell (k := 1) (i := 2) rfl rfl
  have k20 := H5.out.cell (k := 2) (i := 0) rfl rfl
  have k21 := H5.out.cell (k := 2) (i := 1) rfl rfl
  have k22 := H5.out.cell (k := 2) (i := 2) rfl rfl
  have f10 := H5.out.frozen (k := 1) rfl 0
  have f11 := H5.out.frozen (k := 1) rfl 1
  have f12 := H5.out.frozen (k := 1) rfl 2
  have f20 := H5.out.frozen (k := 2) rfl 0
  have f21 := H5.out.frozen (k := 2) rfl 1
  have f22 := H5.out.frozen (k := 2) rfl 2
  have H9 := ((((((H5.out.set (k := 1) rfl 0 (.slice none 0 0)).set (k := 1) rfl 1 (.slice none 0 0)).set (k := 1) rfl 2 (.int .i64 0)).set (k := 2) rfl 0 (.slice none 0 0)).set (k := 2) rfl 1 (.slice none 0 0)).set (k := 2) rfl 2 (.int .i64 0))
  have hF10 := H9.cell (k := 1) (i := 0) rfl rfl
  have hF11 := H9.cell (k := 1) (i := 1) rfl rfl
  have hF12 := H9.cell (k := 1) (i := 2) rfl rfl
  have hF20 := H9.cell (k := 2) (i := 0) rfl rfl
  have hF21 := H9.cell (k := 2) (i := 1) rfl rfl
  have hF22 := H9.cell (k := 2) (i := 2) rfl rfl
  have Hfin := Lib.hid H9
  clear H9
  go_wp2_with fail
  refine bodyPost_ret (v := .tuple #[.agg #[.slice none 0 0, .slice none 0 0, .int .i64 0], .agg #[.slice none 0 0, .slice none 0 0, .int .i64 0], .int .i64 6]) (by simp [results, Try.results21, go_sem, hF10, hF11, hF12, hF20, hF21, hF22]) rfl ?_
  exact ⟨rfl, Hfin.out.below⟩
end Go.Proofs.Ytmjoijfafachhaa
