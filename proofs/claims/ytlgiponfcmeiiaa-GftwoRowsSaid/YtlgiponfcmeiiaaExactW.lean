/- The walk of the law GftwoExact. -/
import Derived.Test.YtlgiponfcmeiiaaNulP
namespace Go.Proofs.Ytlgiponfcmeiiaa
open Go Go.RowKit
theorem HH.forget {w0 w : World} {l : Kn} {s s' : List SlO} (h : HH w0 w l s) (hs : s'.Sublist s) : HH w0 w l s' :=
  ⟨h.below, h.blk, fun x hx => h.own x (hs.subset hx), h.nd1, h.nd2.sublist hs, fun x hx y hy => h.nd3 x hx y (hs.subset hy)⟩
theorem rowOf_succ (i B : Nat) : rowOf (i + 1) B = rowOf i B ++ if B.testBit i = true then [(i : Int)] else [] := by
  unfold rowOf rowN
  rw [List.range_succ, List.filter_append, List.map_append]
  congr 1
  by_cases h : B.testBit i = true
  · rw [if_pos h, List.filter_cons_of_pos (by exact h)]; rfl
  · rw [if_neg h, List.filter_cons_of_neg (by exact h)]; rfl
/-- The sums that vanish, among the first. -/
def kerL (xs : List Nat) (B : Nat) : List Nat := (List.range B).filter fun b => mulN xs xs.length b == 0
theorem kerL_succ (xs : List Nat) (B : Nat) : kerL xs (B + 1) = kerL xs B ++ if mulN xs xs.length B = 0 then [B] else [] := by
  unfold kerL
  rw [List.range_succ, List.filter_append]
  congr 1
  by_cases h : mulN xs xs.length B = 0
  · rw [if_pos h, List.filter_cons_of_pos (by exact beq_iff_eq.2 h)]; rfl
  · rw [if_neg h, List.filter_cons_of_neg (by simpa using h)]; rfl
theorem kerL_mem {xs : List Nat} {B x : Nat} : x ∈ kerL xs B ↔ x < B ∧ mulN xs xs.length x = 0 := by simp [kerL]
theorem kerL_len (xs : List Nat) (B : Nat) : (kerL xs B).length ≤ B := Nat.le_trans (List.length_filter_le _ _) (by simp)
set_option maxRecDepth 100000 in
set_option maxHeartbeats 4000000 in
theorem exact_small (C : Int) (T : List (List Int)) (a : Option Addr) (c : Nat) (w : World) (hs : smallB C T = false) (hT : TabAt w a T) :
    Calls Try.prog 7 #[.int .i64 C, .slice a T.length c] w fun e w' => e = .returned (.bool true) ∧ Below w.heap.size w w' := by
  have HSm : Hid (∀ W', Below w.heap.size w W' → Calls Try.prog 12 #[.int .i64 C, .slice a T.length c] W' fun e w' => e = .returned (.int .i64 (sI (smallB C T))) ∧ Below W'.heap.size W' w') := Lib.hid fun W' h => small_any C T a c W' (hT.later h)
  rw [hs, show sI false = 0 from rfl] at HSm
  clear hs hT
  go_enter Try.func7, Try.ntmps7
  go_wp2_with fail
  refine (awake_any w).mono ?_
  rintro e w1 ⟨rfl, hb⟩
  have H1 := Lib.hid ((HH.start w).call hb)
  clear hb
  go_wp2_with fail
  refine (matrix_any C T.length a c w1).mono ?_
  rintro e w2 ⟨rfl, hb⟩
  have H2 := Lib.hid (H1.out.call hb)
  clear hb H1
  go_wp2_with fail
  obtain ⟨v2, hv2⟩ : ∃ x, x = w2.alloc (.cells #[.int .i64 C, .slice a T.length c] 26) := ⟨_, rfl⟩
  rw [← hv2]
  have h3 : HH w v2 [(w2.heap.size, rowO 26 [.int .i64 C, .slice a T.length c])] [] := by rw [hv2]; exact H2.out.alloc #[.int .i64 C, .slice a T.length c] 26 rfl rfl
  have H3 := Lib.hid h3
  generalize w2.heap.size = q at *
  clear hv2 h3 H2
  refine (HSm.out v2 H3.out.below).mono ?_
  rintro e w3 ⟨rfl, hb⟩
  have H4 := Lib.hid (H3.out.call hb)
  clear hb H3 HSm
  have hc0_0 := H4.out.cell (k := 0) (i := 0) rfl rfl
  have hc0_1 := H4.out.cell (k := 0) (i := 1) rfl rfl
  go_wp2_with fail
  go_ret
  exact ⟨rfl, H4.out.below⟩
set_option maxRecDepth 100000 in
set_option maxHeartbeats 4000000 in
theorem exact_long (C : Int) (T : List (List Int)) (a : Option Addr) (c : Nat) (w : World) (hs : smallB C T = true) (hl : 8 < T.length) (hl2 : T.length ≤ 30) (hT : TabAt w a T) :
    Calls Try.prog 7 #[.int .i64 C, .slice a T.length c] w fun e w' => e = .returned (.bool true) ∧ Below w.heap.size w w' := by
  have HSm : Hid (∀ W', Below w.heap.size w W' → Calls Try.prog 12 #[.int .i64 C, .slice a T.length c] W' fun e w' => e = .returned (.int .i64 (sI (smallB C T))) ∧ Below W'.heap.size W' w') := Lib.hid fun W' h => small_any C T a c W' (hT.later h)
  rw [hs, show sI true = 1 from rfl] at HSm
  clear hs hT
  go_enter Try.func7, Try.ntmps7
  go_wp2_with fail
  refine (awake_any w).mono ?_
  rintro e w1 ⟨rfl, hb⟩
  have H1 := Lib.hid ((HH.start w).call hb)
  clear hb
  go_wp2_with fail
  refine (matrix_any C T.length a c w1).mono ?_
  rintro e w2 ⟨rfl, hb⟩
  have H2 := Lib.hid (H1.out.call hb)
  clear hb H1
  go_wp2_with fail
  obtain ⟨v2, hv2⟩ : ∃ x, x = w2.alloc (.cells #[.int .i64 C, .slice a T.length c] 26) := ⟨_, rfl⟩
  rw [← hv2]
  have h3 : HH w v2 [(w2.heap.size, rowO 26 [.int .i64 C, .slice a T.length c])] [] := by rw [hv2]; exact H2.out.alloc #[.int .i64 C, .slice a T.length c] 26 rfl rfl
  have H3 := Lib.hid h3
  generalize w2.heap.size = q at *
  clear hv2 h3 H2
  refine (HSm.out v2 H3.out.below).mono ?_
  rintro e w3 ⟨rfl, hb⟩
  have H4 := Lib.hid (H3.out.call hb)
  clear hb H3 HSm
  have hc0_0 := H4.out.cell (k := 0) (i := 0) rfl rfl
  have hc0_1 := H4.out.cell (k := 0) (i := 1) rfl rfl
  go_wp2_with fail
  go_ret
  exact ⟨rfl, H4.out.below⟩
set_option maxRecDepth 100000 in
set_option maxHeartbeats 4000000 in
theorem exact_bad (C : Int) (T : List (List Int)) (a : Option Addr) (c : Nat) (w : World) (hs : smallB C T = true) (hl : T.length ≤ 8) (hr : ∀ l ∈ T, l.length ≤ 40) (hC : (Lit.int .i64 C).wf = true) (hv : vldM C T = false) (hT : TabAt w a T) :
    Calls Try.prog 7 #[.int .i64 C, .slice a T.length c] w fun e w' => e = .returned (.bool true) ∧ Below w.heap.size w w' := by
  have HSm : Hid (∀ W', Below w.heap.size w W' → Calls Try.prog 12 #[.int .i64 C, .slice a T.length c] W' fun e w' => e = .returned (.int .i64 (sI (smallB C T))) ∧ Below W'.heap.size W' w') := Lib.hid fun W' h => small_any C T a c W' (hT.later h)
  rw [hs, show sI true = 1 from rfl] at HSm
  have HV : Hid (∀ W', Below w.heap.size w W' → Calls Try.prog 16 #[.agg #[.int .i64 C, .slice a T.length c]] W' fun e w' => e = .returned (.bool (vldM C T)) ∧ Below W'.heap.size W' w') := Lib.hid fun W' h => valid_any C T a c W' (by omega) (fun l hl => by have := hr l hl; omega) (wf_lo hC) (hT.later h)
  rw [hv] at HV
  clear hs hT hr hC hv
  go_enter Try.func7, Try.ntmps7
  go_wp2_with fail
  refine (awake_any w).mono ?_
  rintro e w1 ⟨rfl, hb⟩
  have H1 := Lib.hid ((HH.start w).call hb)
  clear hb
  go_wp2_with fail
  refine (matrix_any C T.length a c w1).mono ?_
  rintro e w2 ⟨rfl, hb⟩
  have H2 := Lib.hid (H1.out.call hb)
  clear hb H1
  go_wp2_with fail
  obtain ⟨v2, hv2⟩ : ∃ x, x = w2.alloc (.cells #[.int .i64 C, .slice a T.length c] 26) := ⟨_, rfl⟩
  rw [← hv2]
  have h3 : HH w v2 [(w2.heap.size, rowO 26 [.int .i64 C, .slice a T.length c])] [] := by rw [hv2]; exact H2.out.alloc #[.int .i64 C, .slice a T.length c] 26 rfl rfl
  have H3 := Lib.hid h3
  generalize w2.heap.size = q at *
  clear hv2 h3 H2
  refine (HSm.out v2 H3.out.below).mono ?_
  rintro e w3 ⟨rfl, hb⟩
  have H4 := Lib.hid (H3.out.call hb)
  clear hb H3 HSm
  have hc0_0 := H4.out.cell (k := 0) (i := 0) rfl rfl
  have hc0_1 := H4.out.cell (k := 0) (i := 1) rfl rfl
  go_wp2_with fail
  refine (HV.out w3 H4.out.below).mono ?_
  rintro e w4 ⟨rfl, hb⟩
  have H5 := Lib.hid (H4.out.call hb)
  clear hb H4 HV hc0_0 hc0_1
  go_wp2_with fail
  go_ret
  exact ⟨rfl, H5.out.below⟩
set_option maxRecDepth 100000 in
set_option maxHeartbeats 4000000 in
theorem exact_wide (C : Int) (T : List (List Int)) (a : Option Addr) (c : Nat) (w : World) (hs : smallB C T = true) (hl : T.length ≤ 8) (hr : ∀ l ∈ T, l.length ≤ 40) (hC : (Lit.int .i64 C).wf = true) (hv : vldM C T = true) (hc : 30 < C) (hT : TabAt w a T) :
    Calls Try.prog 7 #[.int .i64 C, .slice a T.length c] w fun e w' => e = .returned (.bool true) ∧ Below w.heap.size w w' := by
  have HSm : Hid (∀ W', Below w.heap.size w W' → Calls Try.prog 12 #[.int .i64 C, .slice a T.length c] W' fun e w' => e = .returned (.int .i64 (sI (smallB C T))) ∧ Below W'.heap.size W' w') := Lib.hid fun W' h => small_any C T a c W' (hT.later h)
  have d1 : decide (30 < C) = true := decide_eq_true hc
  rw [hs, show sI true = 1 from rfl] at HSm
  have HV : Hid (∀ W', Below w.heap.size w W' → Calls Try.prog 16 #[.agg #[.int .i64 C, .slice a T.length c]] W' fun e w' => e = .returned (.bool (vldM C T)) ∧ Below W'.heap.size W' w') := Lib.hid fun W' h => valid_any C T a c W' (by omega) (fun l hl => by have := hr l hl; omega) (wf_lo hC) (hT.later h)
  rw [hv] at HV
  clear hs hT hr hC hv hc
  go_enter Try.func7, Try.ntmps7
  go_wp2_with fail
  refine (awake_any w).mono ?_
  rintro e w1 ⟨rfl, hb⟩
  have H1 := Lib.hid ((HH.start w).call hb)
  clear hb
  go_wp2_with fail
  refine (matrix_any C T.length a c w1).mono ?_
  rintro e w2 ⟨rfl, hb⟩
  have H2 := Lib.hid (H1.out.call hb)
  clear hb H1
  go_wp2_with fail
  obtain ⟨v2, hv2⟩ : ∃ x, x = w2.alloc (.cells #[.int .i64 C, .slice a T.length c] 26) := ⟨_, rfl⟩
  rw [← hv2]
  have h3 : HH w v2 [(w2.heap.size, rowO 26 [.int .i64 C, .slice a T.length c])] [] := by rw [hv2]; exact H2.out.alloc #[.int .i64 C, .slice a T.length c] 26 rfl rfl
  have H3 := Lib.hid h3
  generalize w2.heap.size = q at *
  clear hv2 h3 H2
  refine (HSm.out v2 H3.out.below).mono ?_
  rintro e w3 ⟨rfl, hb⟩
  have H4 := Lib.hid (H3.out.call hb)
  clear hb H3 HSm
  have hc0_0 := H4.out.cell (k := 0) (i := 0) rfl rfl
  have hc0_1 := H4.out.cell (k := 0) (i := 1) rfl rfl
  go_wp2_with fail
  refine (HV.out w3 H4.out.below).mono ?_
  rintro e w4 ⟨rfl, hb⟩
  have H5 := Lib.hid (H4.out.call hb)
  clear hb H4 HV hc0_0 hc0_1
  go_wp2_with fail
  go_ret
  exact ⟨rfl, H5.out.below⟩
set_option maxRecDepth 100000 in
set_option maxHeartbeats 4000000 in
theorem exact_run (C : Int) (T : List (List Int)) (a : Option Addr) (c : Nat) (w : World) (xs : List Nat) (n : Nat) (hs : smallB C T = true) (hl : T.length ≤ 8) (hr : ∀ l ∈ T, l.length ≤ 40) (hC : (Lit.int .i64 C).wf = true) (hv : vldM C T = true) (hc : C ≤ 30) (hn : C = (n : Int)) (hx : T = tabN n xs) (hlt : ∀ x ∈ xs, x < 2 ^ n) (hT : TabAt w a T) :
    Calls Try.prog 7 #[.int .i64 C, .slice a T.length c] w fun e w' => e = .returned (.bool true) ∧ Below w.heap.size w w' := by
  have HSm : Hid (∀ W', Below w.heap.size w W' → Calls Try.prog 12 #[.int .i64 C, .slice a T.length c] W' fun e w' => e = .returned (.int .i64 (sI (smallB C T))) ∧ Below W'.heap.size W' w') := Lib.hid fun W' h => small_any C T a c W' (hT.later h)
  have d1 : decide (30 < C) = false := decide_eq_false (by omega)
  have d0 : decide (8 < (T.length : Int)) = false := decide_eq_false (by omega)
  rw [hs, show sI true = 1 from rfl] at HSm
  have HV : Hid (∀ W', Below w.heap.size w W' → Calls Try.prog 16 #[.agg #[.int .i64 C, .slice a T.length c]] W' fun e w' => e = .returned (.bool (vldM C T)) ∧ Below W'.heap.size W' w') := Lib.hid fun W' h => valid_any C T a c W' (by omega) (fun l hl => by have := hr l hl; omega) (wf_lo hC) (hT.later h)
  rw [hv] at HV
  subst hn; subst hx
  rw [tabN_len] at *
  obtain ⟨N, hN⟩ : ∃ N : Nat, N = 2 ^ xs.length := ⟨_, rfl⟩
  have hsh : (2 : Int) ^ xs.length = (N : Int) := by rw [hN]; simp
  have hN8 : N ≤ 256 := by rw [hN]; exact Nat.pow_le_pow_right (by omega) hl
  have HN := Lib.hid hN
  clear hN
  have HT := Lib.hid hT
  have Hlt := Lib.hid hlt
  have hn30 : n ≤ 30 := by omega
  clear hs hT hr hC hv hc hlt
  go_enter Try.func7, Try.ntmps7
  go_wp2_with fail
  refine (awake_any w).mono ?_
  rintro e w1 ⟨rfl, hb⟩
  have H1 := Lib.hid ((HH.start w).call hb)
  clear hb
  go_wp2_with fail
  refine (matrix_any n xs.length a c w1).mono ?_
  rintro e w2 ⟨rfl, hb⟩
  have H2 := Lib.hid (H1.out.call hb)
  clear hb H1
  go_wp2_with fail
  obtain ⟨v2, hv2⟩ : ∃ x, x = w2.alloc (.cells #[.int .i64 (n : Int), .slice a xs.length c] 26) := ⟨_, rfl⟩
  rw [← hv2]
  have h3 : HH w v2 [(w2.heap.size, rowO 26 [.int .i64 (n : Int), .slice a xs.length c])] [] := by rw [hv2]; exact H2.out.alloc #[.int .i64 (n : Int), .slice a xs.length c] 26 rfl rfl
  have H3 := Lib.hid h3
  generalize w2.heap.size = q at *
  clear hv2 h3 H2
  refine (HSm.out v2 H3.out.below).mono ?_
  rintro e w3 ⟨rfl, hb⟩
  have H4 := Lib.hid (H3.out.call hb)
  clear hb H3 HSm
  have hc0_0 := H4.out.cell (k := 0) (i := 0) rfl rfl
  have hc0_1 := H4.out.cell (k := 0) (i := 1) rfl rfl
  go_wp2_with fail
  refine (HV.out w3 H4.out.below).mono ?_
  rintro e w4 ⟨rfl, hb⟩
  have H5 := Lib.hid (H4.out.call hb)
  clear hb H4 HV hc0_0 hc0_1
  obtain ⟨w5, hw5⟩ : ∃ x, x = w4.alloc (.cells #[.int .i64 (xs.length : Nat), .slice none 0 0] 26) := ⟨_, rfl⟩
  have h6 : HH w w5 [(q, rowO 26 [.int .i64 (n : Int), .slice a xs.length c]), (w4.heap.size, rowO 26 [.int .i64 (xs.length : Nat), .slice none 0 0])] [⟨none, 0, 36, []⟩] := by rw [hw5]; exact (H5.out.alloc #[.int .i64 (xs.length : Nat), .slice none 0 0] 26 rfl rfl).addNil 36
  have H6 := Lib.hid h6
  go_wp2_with fail
  rw [← hw5]
  generalize w4.heap.size = qi at *
  clear hw5 H5 h6
  go_loopg [44] N (fun g v wr => ∃ (B : Nat) (Ao : Option Addr) (Eo : Nat) (done : List SlO), B ≤ N ∧ g = N - B ∧ v = .int .i64 B ∧ done.length = (kerL xs B).length ∧ (∀ (m : Nat) (d : SlO), done[m]? = some d → d.E = 3 ∧ d.vs = ints (rowOf xs.length ((kerL xs B).getD m 0))) ∧ HH w wr [(q, rowO 26 [.int .i64 (n : Int), .slice a xs.length c]), (qi, rowO 26 [.int .i64 (xs.length : Nat), .slice Ao (kerL xs B).length Eo])] (⟨Ao, Eo, 36, done.map slV⟩ :: done))
  case atStart => exact ⟨0, none, 0, [], Nat.zero_le _, rfl, rfl, rfl, fun m d h => (by simp at h), H6.out⟩
  case round =>
    obtain ⟨B, Ao, Eo, done, hB, rfl, rfl, hdl, hdr, hh⟩ := hrel
    have Hh := Lib.hid hh
    have Hdl := Lib.hid hdl
    have Hdr := Lib.hid hdr
    clear hh hdl hdr H6
    by_cases hBl : B < N
    · have Hs0 := Lib.hid (Hh.out.addSl ((Below.refl _ _).alloc (Nat.le_refl _) (.cells #[] 3)) (Own.made (w := wr) (E := 3) #[] (Nat.le_refl _)))
      obtain ⟨i0, hi0, hz0, hz1, hz2⟩ := info_parts Try.info3
      obtain ⟨j0, hj0, hy0, hy1, hy2⟩ := info_parts Try.info36
      go_wp2_with fail
      go_loopg [50, 8, 9] xs.length (fun g u v s9 wr => ∃ (i x : Nat) (A : Option Addr) (E : Nat), i ≤ xs.length ∧ g = xs.length - i ∧ u = .int .i64 i ∧ v = .int .i64 x ∧ s9 = .slice A (rowOf i B).length E ∧ x = mulN xs i B ∧ HH w wr [(q, rowO 26 [.int .i64 (n : Int), .slice a xs.length c]), (qi, rowO 26 [.int .i64 (xs.length : Nat), .slice Ao (kerL xs B).length Eo])] (⟨Ao, Eo, 36, done.map slV⟩ :: done ++ [⟨A, E, 3, ints (rowOf i B)⟩]))
      case atStart => exact ⟨0, 0, _, _, Nat.zero_le _, rfl, rfl, rfl, rfl, rfl, Hs0.out⟩
      case round =>
        obtain ⟨i, x, A, E, hi, rfl, rfl, rfl, rfl, hx, hh⟩ := hrel
        have Hs := Lib.hid hh
        have Hx := Lib.hid hx
        clear hh hx Hh Hs0
        by_cases hil : i < xs.length
        · have hsb := shr_test B i
          by_cases hb : B.testBit i = true
          · rw [hb] at hsb
            obtain ⟨b1, o1, a', c', rfl, _, hrow⟩ := HT.out.rowAt (tabN_get hil)
            have HI : Hid (∀ W', Below w.heap.size w W' → W'.cell? ⟨b1, o1 + i, none⟩ = some (.slice a' (rowOf n (xs.getD i 0)).length c') ∧ IntsAt W' a' (rowOf n (xs.getD i 0))) := Lib.hid hrow
            have HL : Hid (Asc n (rowOf n (xs.getD i 0))) := Lib.hid (rowOf_asc _ _)
            have Hxi : Hid (mulN xs (i + 1) B = x ^^^ bit (rowOf n (xs.getD i 0))) := Lib.hid (by rw [bit_rowOf (getD_lt Hlt.out i), Hx.out]; unfold mulN; rw [lin, if_pos hb])
            have Hx0 : Hid (x < 2 ^ n) := Lib.hid (by rw [Hx.out]; exact mulN_lt Hlt.out i B)
            have hrl : (rowOf n (xs.getD i 0)).length ≤ 30 := Nat.le_trans (rowOf_len _ _) hn30
            have Hri : Hid (rowOf (i + 1) B = rowOf i B ++ [(i : Int)]) := Lib.hid (by rw [rowOf_succ, if_pos hb])
            have hil8 : (rowOf i B).length ≤ 8 := Nat.le_trans (rowOf_len _ _) (by omega)
            have Hn0 : Hid ((ints (rowOf i B)).length = (rowOf i B).length) := Lib.hid (ints_length _)
            clear hrow hb
            generalize rowOf n (xs.getD i 0) = row at *
            generalize rowOf i B = ls at *
            have Ha0 := Lib.hid (Hs.out.call ((Below.refl _ _).alloc (Nat.le_refl _) (.cells #[.int .i64 (i : Int)] 3)))
            have Hc0 : Hid ((wr.alloc (.cells #[.int .i64 (i : Int)] 3)).cell? ⟨wr.heap.size, 0, none⟩ = some (.int .i64 (i : Int))) := Lib.hid ((Row.new wr #[.int .i64 (i : Int)] 3).cell 0)
            have Hl1 : Hid (w.heap.size ≤ (wr.alloc (.cells #[.int .i64 (i : Int)] 3)).heap.size) := Lib.hid Ha0.out.below.size
            go_upto_region 17 with (with_reducible refine wpList_append_one rfl (.tmp 58) (.tmp 60) 36 rfl w.heap.size 3 i0 (.int .i64 0) 8 Try.underlying36 hi0 hz0 hz1 hz2 rfl A ls.length E (ints ls) rfl Hn0.out (Ha0.out.sl (nthO_last _ _)) _ 1 (.int .i64 (i : Int)) rfl Hc0.out rfl (by omega) (by omega) Hl1.out ?_; intro A2 e2 w2 hO2 hT2 hA2; have H2 := Lib.hid (Ha0.out.grow (nthO_last _ _) hO2 hT2 hA2); clear hO2 hT2 hA2)
            have H3 : Hid (HH w w2 [(q, rowO 26 [.int .i64 (n : Int), .slice (some ⟨b1, o1, none⟩) xs.length c]), (qi, rowO 26 [.int .i64 (xs.length : Nat), .slice Ao (kerL xs B).length Eo])] (⟨Ao, Eo, 36, done.map slV⟩ :: done ++ [⟨A2, e2, 3, ints (ls ++ [(i : Int)])⟩])) := Lib.hid (by
              have h := H2.out
              rw [setO_last, ints_snoc] at h
              exact h)
            have hc1 := (HI.out w2 H3.out.below).1
            clear H2 Ha0 Hc0 Hl1 Hn0
            go_wp2_with fail
            go_loopg [67, 8] row.length (fun g u v wr => ∃ (j y : Nat), j ≤ row.length ∧ g = row.length - j ∧ u = .int .i64 j ∧ v = .int .i64 y ∧ y < 2 ^ n ∧ y ^^^ bit (row.drop j) = x ^^^ bit row ∧ HH w wr [(q, rowO 26 [.int .i64 (n : Int), .slice (some ⟨b1, o1, none⟩) xs.length c]), (qi, rowO 26 [.int .i64 (xs.length : Nat), .slice Ao (kerL xs B).length Eo])] (⟨Ao, Eo, 36, done.map slV⟩ :: done ++ [⟨A2, e2, 3, ints (ls ++ [(i : Int)])⟩]))
            case atStart => exact ⟨0, x, Nat.zero_le _, rfl, rfl, rfl, Hx0.out, rfl, H3.out⟩
            case round =>
              obtain ⟨j, y, hj, rfl, rfl, rfl, hy1, hy2, hh⟩ := hrel
              have Hr := Lib.hid hh
              have Hy := Lib.hid (And.intro hy1 hy2)
              clear hh hy1 hy2 H3 hc1
              by_cases hjl : j < row.length
              · obtain ⟨b2, o2, rfl, _, hcR⟩ := (HI.out wr Hr.out.below).2.open (by omega)
                have hcx := hcR j hjl
                have hxr := HL.out.2 _ (nth_mem row j hjl)
                obtain ⟨cc, hcc⟩ : ∃ cc : Nat, nth row j = (cc : Int) := ⟨(nth row j).toNat, by omega⟩
                rw [hcc] at hcx hxr
                have hcn : cc < n := by omega
                have Hd := Lib.hid (drop_cons row j hjl)
                rw [hcc] at Hd
                clear hcR hxr hcc
                go_wp2_with fail
                have hxs := xor_step Hy.out.1 hcn (by omega)
                go_roundg (row.length - (j + 1))
                case measure => omega
                case rel =>
                  refine ⟨j + 1, y ^^^ 2 ^ cc, by omega, rfl, by go_num, val_int hxs, Nat.xor_lt_two_pow Hy.out.1 (Nat.pow_lt_pow_right (by omega) hcn), ?_, Hr.out⟩
                  have h := Hy.out.2
                  rw [Hd.out, bit_cons, Int.toNat_natCast, ← Nat.xor_assoc] at h
                  exact h
              · obtain rfl : j = row.length := by omega
                have Hy2 : Hid (y = mulN xs (i + 1) B) := Lib.hid (by
                  have h := Hy.out.2
                  rw [List.drop_eq_nil_of_le (Nat.le_refl _), bit_nil, Nat.xor_zero] at h
                  rw [Hxi.out, h])
                go_wp2_with fail
                go_roundg (xs.length - (i + 1))
                case measure => omega
                case rel => exact ⟨i + 1, y, A2, e2, by omega, rfl, by go_num, rfl, by rw [Hri.out, List.length_append]; rfl, Hy2.out, by rw [Hri.out]; exact Hr.out⟩
          · rw [Bool.not_eq_true] at hb
            rw [hb] at hsb
            have Hy2 : Hid (x = mulN xs (i + 1) B) := Lib.hid (by
              rw [Hx.out]; unfold mulN; rw [lin, hb, if_neg (by decide), Nat.xor_zero])
            have Hri : Hid (rowOf (i + 1) B = rowOf i B) := Lib.hid (by rw [rowOf_succ, hb, if_neg (by decide), List.append_nil])
            clear hb
            go_wp2_with fail
            go_roundg (xs.length - (i + 1))
            case measure => omega
            case rel => exact ⟨i + 1, x, A, E, by omega, rfl, by go_num, rfl, by rw [Hri.out], Hy2.out, by rw [Hri.out]; exact Hs.out⟩
        · obtain rfl : i = xs.length := by omega
          have Hxm : Hid (x = mulN xs xs.length B) := Hx
          by_cases hx0 : x = 0
          · subst hx0
            have Hkn : Hid (kerL xs (B + 1) = kerL xs B ++ [B]) := Lib.hid (by rw [kerL_succ, if_pos Hxm.out.symm])
            have hkl : (kerL xs B).length ≤ 256 := Nat.le_trans (kerL_len xs B) (by omega)
            have hll : (rowOf xs.length B).length ≤ 8 := Nat.le_trans (rowOf_len _ _) (by omega)
            have hb0 := Hs.out.cell (k := 1) (i := 1) rfl rfl
            have Hmn : Hid ((done.map slV).length = (kerL xs B).length) := Lib.hid (by rw [List.length_map]; exact Hdl.out)
            have Hlr : Hid ((ints (rowOf xs.length B)).length = (rowOf xs.length B).length) := Lib.hid (ints_length _)
            obtain ⟨kl, hkl2⟩ : ∃ kl, kl = (kerL xs B).length := ⟨_, rfl⟩
            obtain ⟨ll, hll2⟩ : ∃ ll, ll = (rowOf xs.length B).length := ⟨_, rfl⟩
            have Hkl2 := Lib.hid hkl2
            have Hll2 := Lib.hid hll2
            rw [← hkl2] at hb0 Hmn hkl
            rw [← hll2] at hll Hlr
            rw [← hll2]
            clear hkl2 hll2
            have Ha0 := Lib.hid (Hs.out.call ((Below.refl _ _).alloc (Nat.le_refl _) (.cells #[.slice A ll E] 36)))
            have Hc0 : Hid ((wr.alloc (.cells #[.slice A ll E] 36)).cell? ⟨wr.heap.size, 0, none⟩ = some (.slice A ll E)) := Lib.hid ((Row.new wr #[.slice A ll E] 36).cell 0)
            have Hl1 : Hid (w.heap.size ≤ (wr.alloc (.cells #[.slice A ll E] 36)).heap.size) := Lib.hid Ha0.out.below.size
            go_wp2_with (with_reducible refine wpList_append_one rfl (.tmp 80) (.tmp 82) 22 rfl w.heap.size 36 j0 (.slice none 0 0) 24 Try.underlying22 hj0 hy0 hy1 hy2 rfl Ao kl Eo (done.map slV) rfl Hmn.out (Ha0.out.sl (k := 0) rfl) _ 1 (.slice A ll E) rfl Hc0.out rfl (by omega) (by omega) Hl1.out ?_; intro A2 e2 w2 hO2 hT2 hA2; have H2 := Ha0.out.grow (k := 0) rfl hO2 hT2 hA2; have hd := H2.cell (k := 1) (i := 1) rfl rfl; have hf := H2.frozen (k := 1) rfl 1; have H3 := Lib.hid (H2.set (k := 1) rfl 1 (.slice A2 (kl + 1) e2)); clear H2 hO2 hT2 hA2 hb0)
            have H4 : Hid (HH w (w2.setCell ⟨qi, 1, none⟩ (.slice A2 (kl + 1) e2)) [(q, rowO 26 [.int .i64 (n : Int), .slice a xs.length c]), (qi, rowO 26 [.int .i64 (xs.length : Nat), .slice A2 (kerL xs (B + 1)).length e2])] (⟨A2, e2, 36, (done ++ [(⟨A, E, 3, ints (rowOf xs.length B)⟩ : SlO)]).map slV⟩ :: (done ++ [⟨A, E, 3, ints (rowOf xs.length B)⟩]))) := Lib.hid (by
              have h := H3.out
              have e : (kerL xs (B + 1)).length = kl + 1 := by rw [Hkn.out, List.length_append, Hkl2.out]; rfl
              rw [e, List.map_append]
              have e2' : List.map slV [(⟨A, E, 3, ints (rowOf xs.length B)⟩ : SlO)] = [.slice A ll E] := by
                show [slV _] = _
                unfold slV
                rw [Hlr.out]
              rw [e2']
              exact h)
            clear H3 hd hf Ha0 Hc0 Hl1
            go_roundg (N - (B + 1))
            case measure => omega
            case rel =>
              refine ⟨B + 1, A2, e2, done ++ [⟨A, E, 3, ints (rowOf xs.length B)⟩], by omega, rfl, by go_num, by rw [Hkn.out, List.length_append, List.length_append, Hdl.out]; rfl, fun m d h => ?_, H4.out⟩
              rw [Hkn.out]
              rcases Nat.lt_or_ge m done.length with g | g
              · rw [List.getElem?_append_left g] at h
                have := Hdr.out m d h
                rw [List.getD_eq_getElem?_getD, List.getElem?_append_left (by rw [← Hdl.out]; exact g), ← List.getD_eq_getElem?_getD]
                exact this
              · rw [List.getElem?_append_right g] at h
                cases hm : m - done.length with
                | zero =>
                  rw [hm] at h
                  cases h
                  rw [List.getD_eq_getElem?_getD, List.getElem?_append_right (by rw [← Hdl.out]; exact g), ← Hdl.out, hm]
                  exact ⟨rfl, rfl⟩
                | succ m' => rw [hm] at h; simp at h
          · have e0 : ((x : Int) == 0) = false := by rw [beq_eq_false_iff_ne]; omega
            have Hkn : Hid (kerL xs (B + 1) = kerL xs B) := Lib.hid (by rw [kerL_succ, if_neg (by rw [← Hxm.out]; exact hx0), List.append_nil])
            have H4 := Lib.hid (Hs.out.forget (s' := (⟨Ao, Eo, 36, done.map slV⟩ : SlO) :: done) (List.sublist_append_left _ _))
            clear hx0
            go_wp2_with fail
            go_roundg (N - (B + 1))
            case measure => omega
            case rel => exact ⟨B + 1, Ao, Eo, done, by omega, rfl, by go_num, by rw [Hkn.out]; exact Hdl.out, by rw [Hkn.out]; exact Hdr.out, by rw [Hkn.out]; exact H4.out⟩
    · obtain rfl : B = N := by omega
      have HTi : Hid (TabAt wr Ao (tabN xs.length (kerL xs B))) := Lib.hid ((rowsAt_of (Hh.out.forget (List.sublist_cons_self _ _)) (by rw [tabN_len]; exact Hdl.out) (fun m d h => by
        have hm : m < (kerL xs B).length := by rw [← Hdl.out]; exact (List.getElem?_eq_some_iff.1 h).1
        rw [tabN_getD hm]
        exact Hdr.out m d h)).tab (Hh.out.sl (k := 0) rfl).at)
      have hk1 : ∀ x ∈ kerL xs B, x < 2 ^ xs.length := fun x hx => by rw [← HN.out]; exact (kerL_mem.1 hx).1
      have HC := hom_any xs.length n (kerL xs B) xs hk1 Hlt.out (by omega) (by omega) (Nat.le_trans (kerL_len xs B) (by omega)) (by omega) Ao a Eo c wr HTi.out (HT.out.later Hh.out.below)
      have hsum : rk (kerL xs B) + rk xs = xs.length := rk_ker_eq fun x => by rw [kerL_mem, HN.out]
      have hz : (xs.length : Int) - (rk (kerL xs B) : Nat) - (rk xs : Nat) = 0 := by omega
      rw [hz] at HC
      have HC2 : Hid (Calls Try.prog 20 #[.agg #[.int .i64 (xs.length : Nat), .slice Ao (kerL xs B).length Eo], .agg #[.int .i64 (n : Int), .slice a xs.length c]] wr fun e w' => e = .returned (.tuple #[.int .i64 0, .int .i64 0]) ∧ Below wr.heap.size wr w') := Lib.hid (HC.mono fun e w' h => ⟨h.2.2.1 rfl fun x hx => (kerL_mem.1 hx).2, h.2.2.2⟩)
      have hc0_0 := Hh.out.cell (k := 0) (i := 0) rfl rfl
      have hc0_1 := Hh.out.cell (k := 0) (i := 1) rfl rfl
      have hc1_0 := Hh.out.cell (k := 1) (i := 0) rfl rfl
      have hc1_1 := Hh.out.cell (k := 1) (i := 1) rfl rfl
      clear hsum hz hk1 HC
      go_wp2_with fail
      refine HC2.out.mono ?_
      rintro e w8 ⟨rfl, hb⟩
      have H8 := Lib.hid (Hh.out.call hb)
      clear hb Hh HC2 hc0_0 hc0_1 hc1_0 hc1_1
      go_wp2_with fail
      go_ret
      exact ⟨rfl, H8.out.below⟩
theorem exact_any (C : Int) (T : List (List Int)) (a : Option Addr) (c : Nat) (w : World) (hC : (Lit.int .i64 C).wf = true) (hT : TabAt w a T) :
    Calls Try.prog 7 #[.int .i64 C, .slice a T.length c] w fun e w' => e = .returned (.bool true) ∧ Below w.heap.size w w' := by
  by_cases hs : smallB C T = true
  · obtain ⟨⟨h1, _⟩, h2⟩ := smallB_iff.1 hs
    by_cases hl : 8 < T.length
    · exact exact_long C T a c w hs hl h1 hT
    · by_cases hv : vldM C T = true
      · by_cases hc : 30 < C
        · exact exact_wide C T a c w hs (by omega) h2 hC hv hc hT
        · obtain ⟨n, xs, e1, e2, _, _, e3⟩ := vld_tab hv
          exact exact_run C T a c w xs n hs (by omega) h2 hC hv (by omega) e1 e2 e3 hT
      · exact exact_bad C T a c w hs (by omega) h2 hC (by simpa using hv) hT
  · exact exact_small C T a c w (by simpa using hs) hT
end Go.Proofs.Ytlgiponfcmeiiaa
