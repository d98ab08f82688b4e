/- The walk of the law GftwoSpan. -/
import Derived.Test.YtlgiponfcmeiiaaLawA
namespace Go.Proofs.Ytlgiponfcmeiiaa
open Go Go.RowKit
theorem wf_lo {C : Int} (h : (Lit.int .i64 C).wf = true) : -9223372036854775808 ≤ C ∧ C ≤ 9223372036854775807 := by
  simp only [Lit.wf, Bool.and_eq_true, decide_eq_true_eq] at h
  have h1 : IntKind.i64.min = -9223372036854775808 := rfl
  have h2 : IntKind.i64.max = 9223372036854775807 := rfl
  rw [h1, h2] at h; exact h
theorem shr_test (B i : Nat) : (((B : Int) / 2 ^ i).tmod 2 == 1) = B.testBit i := by
  have h : ((B : Int) / 2 ^ i) = ((B / 2 ^ i : Nat) : Int) := by simp
  rw [h, Int.tmod_eq_emod_of_nonneg (Int.natCast_nonneg _), Nat.testBit_eq_decide_div_mod_eq, Bool.eq_iff_iff, beq_iff_eq, decide_eq_true_eq]
  generalize B / 2 ^ i = q
  omega
theorem bits_xor_i64 (a b : Nat) (ha : a < 4611686018427387904) (hb : b < 4611686018427387904) : bits .xor .i64 (a : Int) (b : Int) = ((a ^^^ b : Nat) : Int) := by
  have hx : a ^^^ b < 2 ^ 62 := Nat.xor_lt_two_pow (by omega) (by omega)
  have h1 : (BitVec.ofInt 64 (a : Int)).toNat = a := by
    rw [BitVec.ofInt_natCast, BitVec.toNat_ofNat]; exact Nat.mod_eq_of_lt (by omega)
  have h2 : (BitVec.ofInt 64 (b : Int)).toNat = b := by
    rw [BitVec.ofInt_natCast, BitVec.toNat_ofNat]; exact Nat.mod_eq_of_lt (by omega)
  show IntKind.i64.wrap ((BitVec.ofInt 64 (a : Int) ^^^ BitVec.ofInt 64 (b : Int)).toNat : Int) = _
  rw [BitVec.toNat_xor, h1, h2, IntKind.wrap_i64]
  omega
theorem xor_step {y cc n : Nat} (hy : y < 2 ^ n) (hc : cc < n) (hn : n ≤ 60) : bits .xor .i64 (y : Int) (wrap64 (2 ^ cc)) = ((y ^^^ 2 ^ cc : Nat) : Int) := by
  have h1 : y < 2 ^ 60 := Nat.lt_of_lt_of_le hy (Nat.pow_le_pow_right (by omega) hn)
  have h2 : 2 ^ cc < 2 ^ 60 := Nat.pow_lt_pow_right (by omega) (by omega)
  have h3 : wrap64 ((2 : Int) ^ cc) = ((2 ^ cc : Nat) : Int) := by
    have e : (2 : Int) ^ cc = ((2 ^ cc : Nat) : Int) := by simp
    rw [e]
    unfold wrap64
    generalize 2 ^ cc = p at *
    omega
  rw [h3, bits_xor_i64 y (2 ^ cc) (by omega) (by omega)]
theorem lin_sums {xs : List Nat} {x : Nat} : spanB xs x = true ↔ ∃ b, b < 2 ^ xs.length ∧ x = mulN xs xs.length b := by
  constructor
  · intro h
    refine span_ind (Q := fun x => ∃ b, b < 2 ^ xs.length ∧ x = mulN xs xs.length b) ⟨0, Nat.two_pow_pos _, (lin_zero _ _).symm⟩ ?_ ?_ h
    · rintro _ _ ⟨b1, h1, rfl⟩ ⟨b2, h2, rfl⟩
      exact ⟨b1 ^^^ b2, Nat.xor_lt_two_pow h1 h2, (lin_xor _ _ _ _).symm⟩
    · intro v hv
      obtain ⟨i, hi, rfl⟩ := List.getElem_of_mem hv
      refine ⟨2 ^ i, Nat.pow_lt_pow_right (by omega) hi, ?_⟩
      unfold mulN
      rw [lin_one _ _ _ hi]
      simp [hi]
  · rintro ⟨b, _, rfl⟩
    exact lin_span (fun k hk => span_mem (by rw [List.getD_eq_getElem?_getD, List.getElem?_eq_getElem hk]; exact List.getElem_mem hk)) b
theorem cnt_list {ks : List Nat} {N : Nat} (hn : ks.Nodup) (hl : ∀ k ∈ ks, k < N) : cnt (fun x => decide (x ∈ ks)) N = ks.length := by
  induction ks with
  | nil => exact cnt_none fun x _ => rfl
  | cons k ks ih =>
    rw [List.nodup_cons] at hn
    have ih := ih hn.2 fun j hj => hl j (List.mem_cons_of_mem _ hj)
    have h1 := cnt_remove (p := fun x => decide (x ∈ k :: ks)) (hl k List.mem_cons_self) (decide_eq_true List.mem_cons_self)
    rw [cnt_congr (q := fun x => decide (x ∈ ks)) (fun x _ => by
      by_cases e : x = k
      · subst e
        rw [decide_eq_true rfl, decide_eq_false hn.1]; simp
      · rw [decide_eq_false e]
        simp [e]), ih] at h1
    exact h1.symm
theorem sums_count {xs : List Nat} {n : Nat} {ks : List Nat} (hx : ∀ x ∈ xs, x < 2 ^ n) (hn : ks.Nodup) (hm : ∀ x, x ∈ ks ↔ ∃ b, b < 2 ^ xs.length ∧ x = mulN xs xs.length b) : ks.length = 2 ^ rk xs := by
  rw [← sz_rk hx]
  unfold sz
  have hk : ∀ x, x ∈ ks ↔ spanB xs x = true := fun x => (hm x).trans lin_sums.symm
  rw [← cnt_list (N := 2 ^ n) hn fun k hk' => span_lt hx ((hk k).1 hk')]
  exact cnt_congr fun x _ => by
    rw [Bool.eq_iff_iff, decide_eq_true_eq]; exact hk x
set_option maxRecDepth 100000 in
set_option maxHeartbeats 4000000 in
theorem span_small (C : Int) (T : List (List Int)) (a : Option Addr) (c : Nat) (w : World) (hs : smallB C T = false) (hT : TabAt w a T) :
    Calls Try.prog 5 #[.int .i64 C, .slice a T.length c] w fun e w' => e = .returned (.bool true) ∧ Below w.heap.size w w' := by
  have HSm : Hid (∀ W', Below w.heap.size w W' → Calls Try.prog 12 #[.int .i64 C, .slice a T.length c] W' fun e w' => e = .returned (.int .i64 (sI (smallB C T))) ∧ Below W'.heap.size W' w') := Lib.hid fun W' h => small_any C T a c W' (hT.later h)
  rw [hs, show sI false = 0 from rfl] at HSm
  clear hs hT
  go_enter Try.func5, Try.ntmps5
  go_wp2_with fail
  refine (awake_any w).mono ?_
  rintro e w1 ⟨rfl, hb⟩
  have H1 := Lib.hid ((HH.start w).call hb)
  clear hb
  go_wp2_with fail
  refine (matrix_any C T.length a c w1).mono ?_
  rintro e w2 ⟨rfl, hb⟩
  have H2 := Lib.hid (H1.out.call hb)
  clear hb H1
  go_wp2_with fail
  obtain ⟨v2, hv2⟩ : ∃ x, x = w2.alloc (.cells #[.int .i64 C, .slice a T.length c] 26) := ⟨_, rfl⟩
  rw [← hv2]
  have h3 : HH w v2 [(w2.heap.size, rowO 26 [.int .i64 C, .slice a T.length c])] [] := by rw [hv2]; exact H2.out.alloc #[.int .i64 C, .slice a T.length c] 26 rfl rfl
  have H3 := Lib.hid h3
  generalize w2.heap.size = q at *
  clear hv2 h3 H2
  refine (HSm.out v2 H3.out.below).mono ?_
  rintro e w3 ⟨rfl, hb⟩
  have H4 := Lib.hid (H3.out.call hb)
  clear hb H3 HSm
  have hc0_0 := H4.out.cell (k := 0) (i := 0) rfl rfl
  have hc0_1 := H4.out.cell (k := 0) (i := 1) rfl rfl
  go_wp2_with fail
  go_ret
  exact ⟨rfl, H4.out.below⟩
set_option maxRecDepth 100000 in
set_option maxHeartbeats 4000000 in
theorem span_long (C : Int) (T : List (List Int)) (a : Option Addr) (c : Nat) (w : World) (hs : smallB C T = true) (hl : 8 < T.length) (hl2 : T.length ≤ 30) (hT : TabAt w a T) :
    Calls Try.prog 5 #[.int .i64 C, .slice a T.length c] w fun e w' => e = .returned (.bool true) ∧ Below w.heap.size w w' := by
  have HSm : Hid (∀ W', Below w.heap.size w W' → Calls Try.prog 12 #[.int .i64 C, .slice a T.length c] W' fun e w' => e = .returned (.int .i64 (sI (smallB C T))) ∧ Below W'.heap.size W' w') := Lib.hid fun W' h => small_any C T a c W' (hT.later h)
  rw [hs, show sI true = 1 from rfl] at HSm
  clear hs hT
  go_enter Try.func5, Try.ntmps5
  go_wp2_with fail
  refine (awake_any w).mono ?_
  rintro e w1 ⟨rfl, hb⟩
  have H1 := Lib.hid ((HH.start w).call hb)
  clear hb
  go_wp2_with fail
  refine (matrix_any C T.length a c w1).mono ?_
  rintro e w2 ⟨rfl, hb⟩
  have H2 := Lib.hid (H1.out.call hb)
  clear hb H1
  go_wp2_with fail
  obtain ⟨v2, hv2⟩ : ∃ x, x = w2.alloc (.cells #[.int .i64 C, .slice a T.length c] 26) := ⟨_, rfl⟩
  rw [← hv2]
  have h3 : HH w v2 [(w2.heap.size, rowO 26 [.int .i64 C, .slice a T.length c])] [] := by rw [hv2]; exact H2.out.alloc #[.int .i64 C, .slice a T.length c] 26 rfl rfl
  have H3 := Lib.hid h3
  generalize w2.heap.size = q at *
  clear hv2 h3 H2
  refine (HSm.out v2 H3.out.below).mono ?_
  rintro e w3 ⟨rfl, hb⟩
  have H4 := Lib.hid (H3.out.call hb)
  clear hb H3 HSm
  have hc0_0 := H4.out.cell (k := 0) (i := 0) rfl rfl
  have hc0_1 := H4.out.cell (k := 0) (i := 1) rfl rfl
  go_wp2_with fail
  go_ret
  exact ⟨rfl, H4.out.below⟩
set_option maxRecDepth 100000 in
set_option maxHeartbeats 4000000 in
theorem span_bad (C : Int) (T : List (List Int)) (a : Option Addr) (c : Nat) (w : World) (hs : smallB C T = true) (hl : T.length ≤ 8) (hr : ∀ l ∈ T, l.length ≤ 40) (hC : (Lit.int .i64 C).wf = true) (hv : vldM C T = false) (hT : TabAt w a T) :
    Calls Try.prog 5 #[.int .i64 C, .slice a T.length c] w fun e w' => e = .returned (.bool true) ∧ Below w.heap.size w w' := by
  have HSm : Hid (∀ W', Below w.heap.size w W' → Calls Try.prog 12 #[.int .i64 C, .slice a T.length c] W' fun e w' => e = .returned (.int .i64 (sI (smallB C T))) ∧ Below W'.heap.size W' w') := Lib.hid fun W' h => small_any C T a c W' (hT.later h)
  rw [hs, show sI true = 1 from rfl] at HSm
  have HV : Hid (∀ W', Below w.heap.size w W' → Calls Try.prog 16 #[.agg #[.int .i64 C, .slice a T.length c]] W' fun e w' => e = .returned (.bool (vldM C T)) ∧ Below W'.heap.size W' w') := Lib.hid fun W' h => valid_any C T a c W' (by omega) (fun l hl => by have := hr l hl; omega) (wf_lo hC) (hT.later h)
  rw [hv] at HV
  clear hs hT hr hC hv
  go_enter Try.func5, Try.ntmps5
  go_wp2_with fail
  refine (awake_any w).mono ?_
  rintro e w1 ⟨rfl, hb⟩
  have H1 := Lib.hid ((HH.start w).call hb)
  clear hb
  go_wp2_with fail
  refine (matrix_any C T.length a c w1).mono ?_
  rintro e w2 ⟨rfl, hb⟩
  have H2 := Lib.hid (H1.out.call hb)
  clear hb H1
  go_wp2_with fail
  obtain ⟨v2, hv2⟩ : ∃ x, x = w2.alloc (.cells #[.int .i64 C, .slice a T.length c] 26) := ⟨_, rfl⟩
  rw [← hv2]
  have h3 : HH w v2 [(w2.heap.size, rowO 26 [.int .i64 C, .slice a T.length c])] [] := by rw [hv2]; exact H2.out.alloc #[.int .i64 C, .slice a T.length c] 26 rfl rfl
  have H3 := Lib.hid h3
  generalize w2.heap.size = q at *
  clear hv2 h3 H2
  refine (HSm.out v2 H3.out.below).mono ?_
  rintro e w3 ⟨rfl, hb⟩
  have H4 := Lib.hid (H3.out.call hb)
  clear hb H3 HSm
  have hc0_0 := H4.out.cell (k := 0) (i := 0) rfl rfl
  have hc0_1 := H4.out.cell (k := 0) (i := 1) rfl rfl
  go_wp2_with fail
  refine (HV.out w3 H4.out.below).mono ?_
  rintro e w4 ⟨rfl, hb⟩
  have H5 := Lib.hid (H4.out.call hb)
  clear hb H4 HV hc0_0 hc0_1
  go_wp2_with fail
  go_ret
  exact ⟨rfl, H5.out.below⟩
set_option maxRecDepth 100000 in
set_option maxHeartbeats 4000000 in
theorem span_wide (C : Int) (T : List (List Int)) (a : Option Addr) (c : Nat) (w : World) (hs : smallB C T = true) (hl : T.length ≤ 8) (hr : ∀ l ∈ T, l.length ≤ 40) (hC : (Lit.int .i64 C).wf = true) (hv : vldM C T = true) (hc : 30 < C) (hT : TabAt w a T) :
    Calls Try.prog 5 #[.int .i64 C, .slice a T.length c] w fun e w' => e = .returned (.bool true) ∧ Below w.heap.size w w' := by
  have HSm : Hid (∀ W', Below w.heap.size w W' → Calls Try.prog 12 #[.int .i64 C, .slice a T.length c] W' fun e w' => e = .returned (.int .i64 (sI (smallB C T))) ∧ Below W'.heap.size W' w') := Lib.hid fun W' h => small_any C T a c W' (hT.later h)
  have d1 : decide (30 < C) = true := decide_eq_true hc
  rw [hs, show sI true = 1 from rfl] at HSm
  have HV : Hid (∀ W', Below w.heap.size w W' → Calls Try.prog 16 #[.agg #[.int .i64 C, .slice a T.length c]] W' fun e w' => e = .returned (.bool (vldM C T)) ∧ Below W'.heap.size W' w') := Lib.hid fun W' h => valid_any C T a c W' (by omega) (fun l hl => by have := hr l hl; omega) (wf_lo hC) (hT.later h)
  rw [hv] at HV
  clear hs hT hr hC hv hc
  go_enter Try.func5, Try.ntmps5
  go_wp2_with fail
  refine (awake_any w).mono ?_
  rintro e w1 ⟨rfl, hb⟩
  have H1 := Lib.hid ((HH.start w).call hb)
  clear hb
  go_wp2_with fail
  refine (matrix_any C T.length a c w1).mono ?_
  rintro e w2 ⟨rfl, hb⟩
  have H2 := Lib.hid (H1.out.call hb)
  clear hb H1
  go_wp2_with fail
  obtain ⟨v2, hv2⟩ : ∃ x, x = w2.alloc (.cells #[.int .i64 C, .slice a T.length c] 26) := ⟨_, rfl⟩
  rw [← hv2]
  have h3 : HH w v2 [(w2.heap.size, rowO 26 [.int .i64 C, .slice a T.length c])] [] := by rw [hv2]; exact H2.out.alloc #[.int .i64 C, .slice a T.length c] 26 rfl rfl
  have H3 := Lib.hid h3
  generalize w2.heap.size = q at *
  clear hv2 h3 H2
  refine (HSm.out v2 H3.out.below).mono ?_
  rintro e w3 ⟨rfl, hb⟩
  have H4 := Lib.hid (H3.out.call hb)
  clear hb H3 HSm
  have hc0_0 := H4.out.cell (k := 0) (i := 0) rfl rfl
  have hc0_1 := H4.out.cell (k := 0) (i := 1) rfl rfl
  go_wp2_with fail
  refine (HV.out w3 H4.out.below).mono ?_
  rintro e w4 ⟨rfl, hb⟩
  have H5 := Lib.hid (H4.out.call hb)
  clear hb H4 HV hc0_0 hc0_1
  go_wp2_with fail
  go_ret
  exact ⟨rfl, H5.out.below⟩
set_option maxRecDepth 100000 in
set_option maxHeartbeats 4000000 in
theorem span_run (C : Int) (T : List (List Int)) (a : Option Addr) (c : Nat) (w : World) (xs : List Nat) (n : Nat) (hs : smallB C T = true) (hl : T.length ≤ 8) (hr : ∀ l ∈ T, l.length ≤ 40) (hC : (Lit.int .i64 C).wf = true) (hv : vldM C T = true) (hc : C ≤ 30) (hn : C = (n : Int)) (hx : T = tabN n xs) (hlt : ∀ x ∈ xs, x < 2 ^ n) (hT : TabAt w a T) :
    Calls Try.prog 5 #[.int .i64 C, .slice a T.length c] w fun e w' => e = .returned (.bool true) ∧ Below w.heap.size w w' := by
  have HSm : Hid (∀ W', Below w.heap.size w W' → Calls Try.prog 12 #[.int .i64 C, .slice a T.length c] W' fun e w' => e = .returned (.int .i64 (sI (smallB C T))) ∧ Below W'.heap.size W' w') := Lib.hid fun W' h => small_any C T a c W' (hT.later h)
  have d1 : decide (30 < C) = false := decide_eq_false (by omega)
  have d0 : decide (8 < (T.length : Int)) = false := decide_eq_false (by omega)
  rw [hs, show sI true = 1 from rfl] at HSm
  have HV : Hid (∀ W', Below w.heap.size w W' → Calls Try.prog 16 #[.agg #[.int .i64 C, .slice a T.length c]] W' fun e w' => e = .returned (.bool (vldM C T)) ∧ Below W'.heap.size W' w') := Lib.hid fun W' h => valid_any C T a c W' (by omega) (fun l hl => by have := hr l hl; omega) (wf_lo hC) (hT.later h)
  rw [hv] at HV
  subst hn; subst hx
  rw [tabN_len] at *
  obtain ⟨N, hN⟩ : ∃ N : Nat, N = 2 ^ xs.length := ⟨_, rfl⟩
  have hsh : (2 : Int) ^ xs.length = (N : Int) := by rw [hN]; simp
  have hN8 : N ≤ 256 := by rw [hN]; exact Nat.pow_le_pow_right (by omega) hl
  have HN := Lib.hid hN
  clear hN
  have HT := Lib.hid hT
  have Hlt := Lib.hid hlt
  have hn30 : n ≤ 30 := by omega
  clear hs hT hr hC hv hc hlt
  go_enter Try.func5, Try.ntmps5
  go_wp2_with fail
  refine (awake_any w).mono ?_
  rintro e w1 ⟨rfl, hb⟩
  have H1 := Lib.hid ((HH.start w).call hb)
  clear hb
  go_wp2_with fail
  refine (matrix_any n xs.length a c w1).mono ?_
  rintro e w2 ⟨rfl, hb⟩
  have H2 := Lib.hid (H1.out.call hb)
  clear hb H1
  go_wp2_with fail
  obtain ⟨v2, hv2⟩ : ∃ x, x = w2.alloc (.cells #[.int .i64 (n : Int), .slice a xs.length c] 26) := ⟨_, rfl⟩
  rw [← hv2]
  have h3 : HH w v2 [(w2.heap.size, rowO 26 [.int .i64 (n : Int), .slice a xs.length c])] [] := by rw [hv2]; exact H2.out.alloc #[.int .i64 (n : Int), .slice a xs.length c] 26 rfl rfl
  have H3 := Lib.hid h3
  generalize w2.heap.size = q at *
  clear hv2 h3 H2
  refine (HSm.out v2 H3.out.below).mono ?_
  rintro e w3 ⟨rfl, hb⟩
  have H4 := Lib.hid (H3.out.call hb)
  clear hb H3 HSm
  have hc0_0 := H4.out.cell (k := 0) (i := 0) rfl rfl
  have hc0_1 := H4.out.cell (k := 0) (i := 1) rfl rfl
  go_wp2_with fail
  refine (HV.out w3 H4.out.below).mono ?_
  rintro e w4 ⟨rfl, hb⟩
  have H5 := Lib.hid (H4.out.call hb)
  clear hb H4 HV hc0_0 hc0_1
  have H6 := Lib.hid (H5.out.allocO (.map #[] 0) rfl (kmapO_made (R := boolR) (dat := bd) w4 fun _ => true))
  obtain ⟨w5, hw5⟩ : ∃ x, x = w4.alloc (.map #[] 0) := ⟨_, rfl⟩
  rw [← hw5] at H6
  go_wp2_with (refine wpList_makeMap_k rfl 39 rfl ?_)
  rw [← hw5]
  generalize w4.heap.size = M at *
  clear hw5 H5
  go_loopg [41] (N) (fun g v wr => ∃ (B : Nat) (ks : List Nat), B ≤ N ∧ g = N - B ∧ v = .int .i64 B ∧ HH w wr [(q, rowO 26 [.int .i64 (n : Int), .slice a xs.length c]), (M, kmapO boolR bd B ks fun _ => true)] [] ∧ ks.Nodup ∧ ∀ x, x ∈ ks ↔ ∃ b, b < B ∧ x = mulN xs xs.length b)
  case atStart => exact ⟨0, [], Nat.zero_le _, rfl, rfl, H6.out, List.nodup_nil, fun x => ⟨fun h => (by cases h), fun ⟨b, h, _⟩ => absurd h (Nat.not_lt_zero b)⟩⟩
  case round =>
    obtain ⟨B, ks, hB, rfl, rfl, hh, hnd, hks⟩ := hrel
    have Hh := Lib.hid hh
    have Hnd := Lib.hid hnd
    have Hks := Lib.hid hks
    clear hh hnd hks H6
    by_cases hBl : B < N
    · go_wp2_with fail
      go_loopg [46, 8] xs.length (fun g u v wr => ∃ (i x : Nat), i ≤ xs.length ∧ g = xs.length - i ∧ u = .int .i64 i ∧ v = .int .i64 x ∧ x = mulN xs i B ∧ HH w wr [(q, rowO 26 [.int .i64 (n : Int), .slice a xs.length c]), (M, kmapO boolR bd B ks fun _ => true)] [])
      case atStart => exact ⟨0, 0, Nat.zero_le _, rfl, rfl, rfl, rfl, Hh.out⟩
      case round =>
        obtain ⟨i, x, hi, rfl, rfl, rfl, hx, hh⟩ := hrel
        have Hs := Lib.hid hh
        have Hx := Lib.hid hx
        clear hh hx Hh
        by_cases hil : i < xs.length
        · have hsb := shr_test B i
          by_cases hb : B.testBit i = true
          · rw [hb] at hsb
            obtain ⟨b1, o1, a', c', rfl, _, hrow⟩ := HT.out.rowAt (tabN_get hil)
            have hc1 := (hrow wr Hs.out.below).1
            have HI : Hid (∀ W', Below w.heap.size w W' → IntsAt W' a' (rowOf n (xs.getD i 0))) := Lib.hid fun W' h => (hrow W' h).2
            have HL : Hid (Asc n (rowOf n (xs.getD i 0))) := Lib.hid (rowOf_asc _ _)
            have Hxi : Hid (mulN xs (i + 1) B = x ^^^ bit (rowOf n (xs.getD i 0))) := Lib.hid (by rw [bit_rowOf (getD_lt Hlt.out i), Hx.out]; unfold mulN; rw [lin, if_pos hb])
            have Hx0 : Hid (x < 2 ^ n) := Lib.hid (by rw [Hx.out]; exact mulN_lt Hlt.out i B)
            have hrl : (rowOf n (xs.getD i 0)).length ≤ 30 := Nat.le_trans (rowOf_len _ _) hn30
            clear hrow hb
            generalize rowOf n (xs.getD i 0) = row at *
            go_wp2_with fail
            go_loopg [59, 8] row.length (fun g u v wr => ∃ (j y : Nat), j ≤ row.length ∧ g = row.length - j ∧ u = .int .i64 j ∧ v = .int .i64 y ∧ y < 2 ^ n ∧ y ^^^ bit (row.drop j) = x ^^^ bit row ∧ HH w wr [(q, rowO 26 [.int .i64 (n : Int), .slice (some ⟨b1, o1, none⟩) xs.length c]), (M, kmapO boolR bd B ks fun _ => true)] [])
            case atStart => exact ⟨0, x, Nat.zero_le _, rfl, rfl, rfl, Hx0.out, rfl, Hs.out⟩
            case round =>
              obtain ⟨j, y, hj, rfl, rfl, rfl, hy1, hy2, hh⟩ := hrel
              have Hr := Lib.hid hh
              have Hy := Lib.hid (And.intro hy1 hy2)
              clear hh hy1 hy2 Hs
              by_cases hjl : j < row.length
              · obtain ⟨b2, o2, rfl, _, hcR⟩ := (HI.out wr Hr.out.below).open (by omega)
                have hcx := hcR j hjl
                have hxr := HL.out.2 _ (nth_mem row j hjl)
                obtain ⟨cc, hcc⟩ : ∃ cc : Nat, nth row j = (cc : Int) := ⟨(nth row j).toNat, by omega⟩
                rw [hcc] at hcx hxr
                have hcn : cc < n := by omega
                have Hd := Lib.hid (drop_cons row j hjl)
                rw [hcc] at Hd
                clear hcR hxr hcc
                go_wp2_with fail
                have hxs := xor_step Hy.out.1 hcn (by omega)
                go_roundg (row.length - (j + 1))
                case measure => omega
                case rel =>
                  refine ⟨j + 1, y ^^^ 2 ^ cc, by omega, rfl, by go_num, val_int hxs, Nat.xor_lt_two_pow Hy.out.1 (Nat.pow_lt_pow_right (by omega) hcn), ?_, Hr.out⟩
                  have h := Hy.out.2
                  rw [Hd.out, bit_cons, Int.toNat_natCast, ← Nat.xor_assoc] at h
                  exact h
              · obtain rfl : j = row.length := by omega
                have Hy2 : Hid (y = mulN xs (i + 1) B) := Lib.hid (by
                  have h := Hy.out.2
                  rw [List.drop_eq_nil_of_le (Nat.le_refl _), bit_nil, Nat.xor_zero] at h
                  rw [Hxi.out, h])
                go_wp2_with fail
                go_roundg (xs.length - (i + 1))
                case measure => omega
                case rel => exact ⟨i + 1, y, by omega, rfl, by go_num, rfl, Hy2.out, Hr.out⟩
          · rw [Bool.not_eq_true] at hb
            rw [hb] at hsb
            have Hy2 : Hid (x = mulN xs (i + 1) B) := Lib.hid (by
              rw [Hx.out]; unfold mulN; rw [lin, hb, if_neg (by decide), Nat.xor_zero])
            clear hb
            go_wp2_with fail
            go_roundg (xs.length - (i + 1))
            case measure => omega
            case rel => exact ⟨i + 1, x, by omega, rfl, by go_num, rfl, Hy2.out, Hs.out⟩
        · obtain rfl : i = xs.length := by omega
          have Hkm := Lib.hid (Hs.out.kmap (k := 1) rfl)
          have Hxl : Hid (x ≤ 4611686018427387904) := Lib.hid (by
            have h1 : x < 2 ^ n := by rw [Hx.out]; exact mulN_lt Hlt.out _ B
            have h2 : 2 ^ n ≤ 2 ^ 30 := Nat.pow_le_pow_right (by omega) hn30
            omega)
          have hBl : B ≤ 1000000 := by omega
          go_wp2_with (with_reducible refine wpList_store_k elBool rfl 39 (.tmp 69) (.tmp 70) (.const (.bool true)) rfl Try.underlying39 M B x ks (fun _ => true) true (.bool true) rfl rfl rfl rfl Hxl.out Hkm.out hBl ?_; intro w6 hk6 ht6; have Hk6 := Lib.hid hk6; have Ht6 := Lib.hid ht6; clear hk6 ht6)
          have Hk7 : Hid (KMap boolR bd w6 M (B + 1) (if x ∈ ks then ks else x :: ks) (fun _ => true)) := Lib.hid (by
            have h := Hk6.out
            have e : updN (fun _ => true) x true = fun _ => true := by funext i; unfold updN; split <;> rfl
            rw [e] at h
            exact h)
          have H7 := Lib.hid (Hs.out.mapTurn (k := 1) rfl Hk7.out Ht6.out)
          have Hnd2 : Hid ((if x ∈ ks then ks else x :: ks).Nodup) := Lib.hid (by
            split
            · exact Hnd.out
            · rename_i hm; exact List.nodup_cons.2 ⟨hm, Hnd.out⟩)
          have Hks2 : Hid (∀ z, z ∈ (if x ∈ ks then ks else x :: ks) ↔ ∃ b, b < B + 1 ∧ z = mulN xs xs.length b) := Lib.hid fun z => by
            have e : z ∈ (if x ∈ ks then ks else x :: ks) ↔ z = x ∨ z ∈ ks := by
              split
              · rename_i hm
                exact ⟨.inr, fun g => g.elim (fun g => by rw [g]; exact hm) id⟩
              · rw [List.mem_cons]
            rw [e, Hks.out]
            constructor
            · rintro (g | ⟨b, hb, g⟩)
              · exact ⟨B, by omega, g.trans Hx.out⟩
              · exact ⟨b, by omega, g⟩
            · rintro ⟨b, hb, g⟩
              by_cases hbb : b = B
              · subst hbb; exact .inl (g.trans Hx.out.symm)
              · exact .inr ⟨b, by omega, g⟩
          clear Hk6 Ht6 Hk7 Hkm
          go_wp2_with fail
          go_roundg (N - (B + 1))
          case measure => omega
          case rel => exact ⟨B + 1, _, by omega, rfl, by go_num, H7.out, Hnd2.out, Hks2.out⟩
    · obtain rfl : B = N := by omega
      have hc0_0 := Hh.out.cell (k := 0) (i := 0) rfl rfl
      have hc0_1 := Hh.out.cell (k := 0) (i := 1) rfl rfl
      have hrk : rk xs ≤ 8 := Nat.le_trans (rk_le_len xs) (by omega)
      have HSz : Hid (ks.length = 2 ^ rk xs) := Lib.hid (sums_count Hlt.out Hnd.out (by
        have h := Hks.out
        rw [HN.out] at h
        exact h))
      have HR := Lib.hid (rank_yes n xs Hlt.out (by omega) (by omega) a c wr (HT.out.later Hh.out.below))
      obtain ⟨r, hr⟩ : ∃ r, r = rk xs := ⟨_, rfl⟩
      rw [← hr] at HR HSz hrk
      clear hr
      obtain ⟨p, hp⟩ : ∃ p : Nat, p = 2 ^ r := ⟨_, rfl⟩
      have hsh2 : (2 : Int) ^ r = (p : Int) := by rw [hp]; simp
      have hp8 : p ≤ 256 := by rw [hp]; exact Nat.pow_le_pow_right (by omega) hrk
      rw [← hp] at HSz
      clear hp
      have e1 : decide (0 ≤ (r : Int)) = true := decide_eq_true (by omega)
      have e2 : decide ((r : Int) ≤ 8) = true := decide_eq_true (by omega)
      go_wp2_with fail
      refine HR.out.mono ?_
      rintro e w8 ⟨rfl, hb⟩
      have H8 := Lib.hid (Hh.out.call hb)
      clear hb Hh hc0_0 hc0_1
      have Hkm := Lib.hid (H8.out.drew.kmap (k := 1) rfl)
      go_wp2_with fail
      have hlen : ∀ ty, (Builtin.len_ #[39] ty #[.map (some M)]).run Try.prog w8.drew = .ok (.int .i64 (p : Int)) w8.drew := fun ty => by
        have h := Hkm.out.len Try.underlying39 ty
        rw [HSz.out] at h
        exact h
      go_region
      all_goals
        go_wp2_with fail
        go_ret
        exact ⟨rfl, H8.out.drew.below⟩
theorem span_any (C : Int) (T : List (List Int)) (a : Option Addr) (c : Nat) (w : World) (hC : (Lit.int .i64 C).wf = true) (hT : TabAt w a T) :
    Calls Try.prog 5 #[.int .i64 C, .slice a T.length c] w fun e w' => e = .returned (.bool true) ∧ Below w.heap.size w w' := by
  by_cases hs : smallB C T = true
  · obtain ⟨⟨h1, _⟩, h2⟩ := smallB_iff.1 hs
    by_cases hl : 8 < T.length
    · exact span_long C T a c w hs hl h1 hT
    · by_cases hv : vldM C T = true
      · by_cases hc : 30 < C
        · exact span_wide C T a c w hs (by omega) h2 hC hv hc hT
        · obtain ⟨n, xs, e1, e2, _, _, e3⟩ := vld_tab hv
          exact span_run C T a c w xs n hs (by omega) h2 hC hv (by omega) e1 e2 e3 hT
      · exact span_bad C T a c w hs (by omega) h2 hC (by simpa using hv) hT
  · exact span_small C T a c w (by simpa using hs) hT
end Go.Proofs.Ytlgiponfcmeiiaa
