/- The walk of the law GftwoTranspose: a good matrix, way 3. -/
import Derived.Test.YtlgiponfcmeiiaaLTraA
namespace Go.Proofs.Ytlgiponfcmeiiaa
open Go Go.RowKit
set_option maxRecDepth 100000 in
set_option maxHeartbeats 4000000 in
theorem ltra_3 (C : Int) (T : List (List Int)) (a : Option Addr) (c : Nat) (D : Int) (U : List (List Int)) (b : Option Addr) (d : Nat) (w : World) (hs : smallB C T = true) (hs2 : smallB D U = true) (n : Nat) (xs : List Nat) (hn : C = (n : Int)) (hx : T = tabN n xs) (hxl : ∀ x ∈ xs, x < 2 ^ n) (h3 : C ≤ 30) (m : Nat) (ys : List Nat) (hm : D = (m : Int)) (hy : U = tabN m ys) (hyl : ∀ y ∈ ys, y < 2 ^ m) (hm6 : m ≤ 65536) (heq : n = ys.length) (hM : 30 < m)  (hT : TabAt w a T) (hU : TabAt w b U) :
    Calls Try.prog 9 #[.int .i64 C, .slice a T.length c, .int .i64 D, .slice b U.length d] w fun e w' => e = .returned (.bool true) ∧ Below w.heap.size w w' := by
  have HS1 : Hid (∀ W', Below w.heap.size w W' → Calls Try.prog 12 #[.int .i64 C, .slice a T.length c] W' fun e w' => e = .returned (.int .i64 (sI (smallB C T))) ∧ Below W'.heap.size W' w') := Lib.hid fun W' h => small_any C T a c W' (hT.later h)
  have HS2 : Hid (∀ W', Below w.heap.size w W' → Calls Try.prog 12 #[.int .i64 D, .slice b U.length d] W' fun e w' => e = .returned (.int .i64 (sI (smallB D U))) ∧ Below W'.heap.size W' w') := Lib.hid fun W' h => small_any D U b d W' (hU.later h)
  have hl := (smallB_iff.1 hs).1.1
  have hl2 := (smallB_iff.1 hs2).1.1
  rw [hs, show sI true = 1 from rfl] at HS1
  rw [hs2, show sI true = 1 from rfl] at HS2
  subst hn
  subst hx
  have hn3 : n ≤ 30 := by omega
  subst hm
  subst hy
  rw [tabN_len n xs] at *
  rw [tabN_len m ys] at *
  obtain ⟨ts, hts⟩ : ∃ ts, ts = trN n xs := ⟨_, rfl⟩
  have hts1 : ts.length = n := by rw [hts, trN_len]
  have Hts := Lib.hid hts1
  have htl : ∀ t ∈ ts, t < 2 ^ xs.length := by rw [hts]; exact trN_lt n xs
  have HTr : Hid (∀ W', Below w.heap.size w W' → Calls Try.prog 25 #[.agg #[.int .i64 (n : Int), .slice a xs.length c]] W' fun e w' => ∃ A E, e = .returned (.tuple #[.agg #[.int .i64 (xs.length : Int), .slice A n E], .int .i64 0]) ∧ TabAt w' A (tabN xs.length ts) ∧ Below W'.heap.size W' w') := Lib.hid fun W' h => by rw [hts]; exact trans_yes n xs (by omega) (by omega) a c W' (hT.later h)
  have HV : Hid (∀ W', Below w.heap.size w W' → Calls Try.prog 16 #[.agg #[.int .i64 (n : Int), .slice a xs.length c]] W' fun e w' => e = .returned (.bool true) ∧ Below W'.heap.size W' w') := Lib.hid fun W' h => valid_tab n xs (by omega) (by omega) a c W' (hT.later h)
  have HVt : Hid (∀ (A : Option Addr) (E : Nat) W', TabAt W' A (tabN xs.length ts) → Calls Try.prog 16 #[.agg #[.int .i64 (xs.length : Int), .slice A n E]] W' fun e w' => e = .returned (.bool true) ∧ Below W'.heap.size W' w') := Lib.hid fun A E W' h => by have hq := valid_tab xs.length ts (by omega) (by omega) A E W' h; rw [hts1] at hq; exact hq
  have HTb : Hid (∀ (A : Option Addr) (E : Nat) W', TabAt W' A (tabN xs.length ts) → Calls Try.prog 25 #[.agg #[.int .i64 (xs.length : Int), .slice A n E]] W' fun e w' => ∃ A E, e = .returned (.tuple #[.agg #[.int .i64 (n : Int), .slice A xs.length E], .int .i64 0]) ∧ TabAt w' A (tabN n xs) ∧ Below W'.heap.size W' w') := Lib.hid fun A E W' h => by
    have hq := trans_yes xs.length ts (by omega) (by omega) A E W' h
    rw [hts1] at hq
    rw [show trN xs.length ts = xs by rw [hts, trN_trN hxl]] at hq
    exact hq
  have HRx : Hid (∀ W', Below w.heap.size w W' → Calls Try.prog 14 #[.agg #[.int .i64 (n : Int), .slice a xs.length c]] W' fun e w' => e = .returned (.tuple #[.int .i64 (rk xs : Nat), .int .i64 0]) ∧ Below W'.heap.size W' w') := Lib.hid fun W' h => rank_yes n xs hxl (by omega) (by omega) a c W' (hT.later h)
  have HRt : Hid (∀ (A : Option Addr) (E : Nat) W', TabAt W' A (tabN xs.length ts) → Calls Try.prog 14 #[.agg #[.int .i64 (xs.length : Int), .slice A n E]] W' fun e w' => e = .returned (.tuple #[.int .i64 (rk xs : Nat), .int .i64 0]) ∧ Below W'.heap.size W' w') := Lib.hid fun A E W' h => by
    have hq := rank_yes xs.length ts htl (by omega) (by omega) A E W' h
    rw [hts1, show rk ts = rk xs by rw [hts, rk_tr hxl]] at hq
    exact hq
  have HE : Hid (∀ (A : Option Addr) (E : Nat) W', Below w.heap.size w W' → TabAt W' A (tabN n xs) → Calls Try.prog 24 #[.slice A xs.length E, .slice a xs.length c] W' fun e w' => e = .returned (.bool true) ∧ Below W'.heap.size W' w') := Lib.hid fun A E W' h h4 => by
    have hq := equalT_any (tabN n xs) (tabN n xs) A a E c W' (by rw [tabN_len]; omega) (fun l hl => by
      obtain ⟨z, _, rfl⟩ := List.mem_map.1 hl
      have := rowOf_len n z
      omega) h4 (hT.later h)
    rw [tabN_len, decide_eq_true rfl] at hq
    refine hq.mono ?_
    rintro e w' ⟨rfl, k, rfl⟩
    exact ⟨rfl, (below_drewNN (Below.refl _ _) k)⟩
  obtain ⟨zs, hzs⟩ : ∃ zs, zs = xs.map (mulN ys n) := ⟨_, rfl⟩
  have hzl : zs.length = xs.length := by rw [hzs, List.length_map]
  have HMu : Hid (∀ W', Below w.heap.size w W' → Calls Try.prog 23 #[.agg #[.int .i64 (n : Int), .slice a xs.length c], .agg #[.int .i64 (m : Int), .slice b ys.length d]] W' fun e w' => ∃ A E, e = .returned (.tuple #[.agg #[.int .i64 (m : Int), .slice A xs.length E], .int .i64 0]) ∧ TabAt w' A (tabN m zs) ∧ Below W'.heap.size W' w') := Lib.hid fun W' h => by rw [hzs]; exact mul_yes n m xs ys hyl (by omega) hm6 (by omega) (by omega) a b c d W' (hT.later h) (hU.later h) heq
  obtain ⟨SA, hSA⟩ : ∃ f, f = sumN (fun i => (rowOf n (xs.getD i 0)).length) := ⟨_, rfl⟩
  obtain ⟨SB, hSB⟩ : ∃ f, f = sumN (fun i => (rowOf xs.length (ts.getD i 0)).length) := ⟨_, rfl⟩
  have hSe : SA xs.length = SB n := by rw [hSA, hSB, hts]; exact ones_tr n xs
  have HSA : Hid (SA 0 = 0 ∧ (∀ i, SA (i + 1) = SA i + (rowOf n (xs.getD i 0)).length) ∧ ∀ i, i ≤ xs.length → SA i ≤ 900) := Lib.hid ⟨by rw [hSA]; rfl, fun i => by rw [hSA]; rfl, fun i hi => by
    have h1 : SA i ≤ 30 * i := by rw [hSA]; exact sumN_le fun k => Nat.le_trans (rowOf_len _ _) hn3
    omega⟩
  have HSB : Hid (SB 0 = 0 ∧ (∀ i, SB (i + 1) = SB i + (rowOf xs.length (ts.getD i 0)).length) ∧ (∀ k, k ≤ n → SB k ≤ SA xs.length) ∧ SB n = SA xs.length) := Lib.hid ⟨by rw [hSB]; rfl, fun i => by rw [hSB]; rfl, fun k hk => by rw [hSe, hSB]; exact sumN_mono hk, hSe.symm⟩
  have HIN : Hid (∀ i j, i < xs.length → j < (rowOf n (xs.getD i 0)).length → 0 ≤ nth (rowOf n (xs.getD i 0)) j ∧ nth (rowOf n (xs.getD i 0)) j < n ∧ (i : Int) ∈ rowOf xs.length (ts.getD (nth (rowOf n (xs.getD i 0)) j).toNat 0)) := Lib.hid fun i j hi hj => by
    obtain ⟨g1, g2, g3⟩ := mem_rowOf.1 (nth_mem _ _ hj)
    refine ⟨g1, g2, mem_rowOf.2 ⟨by omega, by omega, ?_⟩⟩
    rw [Int.toNat_natCast, hts, trN_test hxl]
    exact g3
  have hrk1 := rk_le_cols hxl
  have hrk2 := rk_le_len xs
  generalize rk xs = r1 at *
  have e1 : decide ((n : Int) < (r1 : Int)) = false := decide_eq_false (by omega)
  have e2 : decide ((xs.length : Int) < (r1 : Int)) = false := decide_eq_false (by omega)
  have e3 : decide (n < r1) = false := decide_eq_false (by omega)
  have e4 : decide (xs.length < r1) = false := decide_eq_false (by omega)
  have d1 : decide (30 < (n : Int)) = false := decide_eq_false (by omega)
  have d2 : decide (30 < n) = false := decide_eq_false (by omega)
  have d3 : decide (30 < (m : Int)) = true := decide_eq_true (by omega)
  have d4 : decide (30 < m) = true := decide_eq_true (by omega)
  have HT := Lib.hid hT
  clear hs hs2 hT hU h3 hxl hts hts1 htl hSA hSB hSe hrk1 hrk2 hl2 hyl hm6 heq hzs hzl hM
  go_enter Try.func9, Try.ntmps9
  go_wp2_with fail
  refine (awake_any w).mono ?_
  rintro e w1 ⟨rfl, hb⟩
  have H1 := Lib.hid ((HH.start w).call hb)
  clear hb
  go_wp2_with fail
  refine (HS1.out w1 H1.out.below).mono ?_
  rintro e w2 ⟨rfl, hb⟩
  have H2 := Lib.hid (H1.out.call hb)
  clear hb H1 
  go_wp2_with fail
  refine (HS2.out w2 H2.out.below).mono ?_
  rintro e w3 ⟨rfl, hb⟩
  have H3 := Lib.hid (H2.out.call hb)
  clear hb H2 
  go_wp2_with fail
  refine (matrix_any n xs.length a c w3).mono ?_
  rintro e w4 ⟨rfl, hb⟩
  have H4 := Lib.hid ((H3.out.call hb).alloc #[.int .i64 (n : Int), .slice a xs.length c] 26 rfl rfl)
  clear hb H3 
  have hc0_0 := H4.out.cell (k := 0) (i := 0) rfl rfl
  have hc0_1 := H4.out.cell (k := 0) (i := 1) rfl rfl
  obtain ⟨v4, hv⟩ : ∃ x, x = w4.alloc (.cells #[.int .i64 (n : Int), .slice a xs.length c] 26) := ⟨_, rfl⟩
  go_wp2_with fail
  clear hc0_0 hc0_1
  rw [← hv]
  rw [← hv] at H4 
  generalize w4.heap.size = q1 at *
  clear hv
  refine (HTr.out v4 H4.out.below).mono ?_
  rintro e w5 ⟨A1, E1, rfl, hbt, hb⟩
  have H5 := Lib.hid ((H4.out.call hb).alloc #[.int .i64 (xs.length : Int), .slice A1 n E1] 26 rfl rfl)
  have Ht := Lib.hid (hbt.later ((Below.refl w5.heap.size w5).alloc (Nat.le_refl _) (.cells #[.int .i64 (xs.length : Int), .slice A1 n E1] 26)))
  clear hbt
  clear hb H4 HTr
  have hc0_0 := H5.out.cell (k := 0) (i := 0) rfl rfl
  have hc0_1 := H5.out.cell (k := 0) (i := 1) rfl rfl
  obtain ⟨v5, hv⟩ : ∃ x, x = w5.alloc (.cells #[.int .i64 (xs.length : Int), .slice A1 n E1] 26) := ⟨_, rfl⟩
  go_wp2_with fail
  clear hc0_0 hc0_1
  rw [← hv]
  rw [← hv] at H5 Ht
  generalize w5.heap.size = q2 at *
  clear hv
  refine (HV.out v5 H5.out.below).mono ?_
  rintro e w6 ⟨rfl, hb⟩
  have H6 := Lib.hid (H5.out.call hb)
  replace Ht := Lib.hid (Ht.out.later hb)
  clear hb H5 HV
  have hc1_0 := H6.out.cell (k := 1) (i := 0) rfl rfl
  have hc1_1 := H6.out.cell (k := 1) (i := 1) rfl rfl
  go_wp2_with fail
  clear hc1_0 hc1_1
  refine (HVt.out A1 E1 w6 Ht.out).mono ?_
  rintro e w7 ⟨rfl, hb⟩
  have H7 := Lib.hid (H6.out.call hb)
  replace Ht := Lib.hid (Ht.out.later hb)
  clear hb H6 HVt
  have hc1_0 := H7.out.cell (k := 1) (i := 0) rfl rfl
  have hc1_1 := H7.out.cell (k := 1) (i := 1) rfl rfl
  go_wp2_with fail
  go_loopg [102, 12] xs.length (fun g v s12 wr => ∃ i : Nat, i ≤ xs.length ∧ g = xs.length - i ∧ v = .int .i64 i ∧ s12 = .int .i64 (SA i : Nat) ∧ w7 = wr)
  case atStart => exact ⟨0, Nat.zero_le _, rfl, rfl, by rw [HSA.out.1]; rfl, rfl⟩
  case round =>
    obtain ⟨i, hi, rfl, rfl, rfl, rfl⟩ := hrel
    by_cases hil : i < xs.length
    · obtain ⟨b1, o1, a', c', rfl, hcr, hrow⟩ := HT.out.rowAt (tabN_get hil)
      have hc1 := (hrow w7 H7.out.below).1
      have HI := Lib.hid (hrow w7 H7.out.below).2
      have hl1 : (rowOf n (xs.getD i 0)).length ≤ 30 := Nat.le_trans (rowOf_len _ _) hn3
      have HSn := Lib.hid (HSA.out.2.1 i)
      have hpb := HSA.out.2.2 i hi
      have HIi : Hid (∀ j, j < (rowOf n (xs.getD i 0)).length → 0 ≤ nth (rowOf n (xs.getD i 0)) j ∧ nth (rowOf n (xs.getD i 0)) j < n ∧ (i : Int) ∈ rowOf xs.length (ts.getD (nth (rowOf n (xs.getD i 0)) j).toNat 0)) := Lib.hid fun j hj => HIN.out i j hil hj
      clear hrow hcr HIN
      generalize rowOf n (xs.getD i 0) = row at *
      obtain ⟨p, hp⟩ : ∃ p, p = SA i := ⟨_, rfl⟩
      rw [← hp] at hpb HSn
      rw [← hp]
      clear hp
      go_wp2_with fail
      go_loopg [117] row.length (fun g v wr2 => ∃ j : Nat, j ≤ row.length ∧ g = row.length - j ∧ v = .int .i64 j ∧ w7 = wr2)
      case atStart => exact ⟨0, Nat.zero_le _, rfl, rfl, rfl⟩
      case round =>
        obtain ⟨j, hj, rfl, rfl, rfl⟩ := hrel
        by_cases hjl : j < row.length
        · obtain ⟨b2, o2, rfl, _, hcR⟩ := HI.out.open (by omega)
          have hcx := hcR j hjl
          obtain ⟨hx0, hx1, hx2⟩ := HIi.out j hjl
          obtain ⟨cc, hcc⟩ : ∃ cc : Nat, nth row j = (cc : Int) := ⟨(nth row j).toNat, by omega⟩
          rw [hcc] at hcx hx1 hx2
          rw [Int.toNat_natCast] at hx2
          have hcn : cc < n := by omega
          obtain ⟨b3, o3, a3, c3, rfl, _, hrow3⟩ := Ht.out.rowAt (tabN_get (by rw [Hts.out]; exact hcn))
          have hc3 := (hrow3 w7 (Below.refl _ _)).1
          have HI3 := Lib.hid (hrow3 w7 (Below.refl _ _)).2
          have hl3 : (rowOf xs.length (ts.getD cc 0)).length ≤ 30 := Nat.le_trans (rowOf_len _ _) hl
          have Hin := Lib.hid hx2
          clear hcR hrow3 hx0 hx1 hx2 hcc
          generalize rowOf xs.length (ts.getD cc 0) = trow at *
          go_wp2_with fail
          go_loopg [127, 16] trow.length (fun g v s16 wr2 => ∃ l : Nat, l ≤ trow.length ∧ g = trow.length - l ∧ v = .int .i64 l ∧ s16 = .bool (decide ((i : Int) ∈ trow.take l)) ∧ w7 = wr2)
          case atStart => exact ⟨0, Nat.zero_le _, rfl, rfl, by simp, rfl⟩
          case round =>
            obtain ⟨l, hl0, rfl, rfl, rfl, rfl⟩ := hrel
            by_cases hll : l < trow.length
            · obtain ⟨b4, o4, rfl, _, hcL⟩ := HI3.out.open (by omega)
              have hcy := hcL l hll
              have Hst : Hid (decide ((i : Int) ∈ trow.take (l + 1)) = (decide ((i : Int) ∈ trow.take l) || decide (nth trow l = (i : Int)))) := Lib.hid (by
                rw [take_snoc trow hll, Bool.eq_iff_iff, Bool.or_eq_true, decide_eq_true_eq, decide_eq_true_eq, decide_eq_true_eq, List.mem_append, List.mem_singleton]
                exact or_congr Iff.rfl eq_comm)
              clear hcL
              obtain ⟨f, hf⟩ : ∃ f, f = decide ((i : Int) ∈ trow.take l) := ⟨_, rfl⟩
              rw [← hf] at Hst
              rw [← hf]
              clear hf
              generalize nth trow l = y at *
              cases f with
              | true =>
                go_wp2_with fail
                go_roundg (trow.length - (l + 1))
                case measure => omega
                case rel => exact ⟨l + 1, by omega, rfl, by go_num, by rw [Hst.out]; rfl, rfl⟩
              | false =>
                by_cases hy : y = (i : Int)
                · have f1 : (y == (i : Int)) = true := by rw [hy]; simp
                  have Hy := Lib.hid hy
                  clear hy
                  go_wp2_with fail
                  go_roundg (trow.length - (l + 1))
                  case measure => omega
                  case rel => exact ⟨l + 1, by omega, rfl, by go_num, by rw [Hst.out, Hy.out]; simp, rfl⟩
                · have f1 : (y == (i : Int)) = false := by rw [beq_eq_false_iff_ne]; exact hy
                  have Hy := Lib.hid (decide_eq_false hy)
                  clear hy
                  go_wp2_with fail
                  go_roundg (trow.length - (l + 1))
                  case measure => omega
                  case rel => exact ⟨l + 1, by omega, rfl, by go_num, by rw [Hst.out, Hy.out]; rfl, rfl⟩
            · obtain rfl : l = trow.length := by omega
              rw [List.take_length, decide_eq_true Hin.out]
              go_wp2_with fail
              go_roundg (row.length - (j + 1))
              case measure => omega
              case rel => exact ⟨j + 1, by omega, rfl, by go_num, rfl⟩
        · obtain rfl : j = row.length := by omega
          go_wp2_with fail
          go_roundg (xs.length - (i + 1))
          case measure => omega
          case rel => exact ⟨i + 1, by omega, rfl, by go_num, by rw [HSn.out]; go_num, rfl⟩
    · obtain rfl : i = xs.length := by omega
      have hpb := HSA.out.2.2 xs.length (Nat.le_refl _)
      go_wp2_with fail
      go_loopg [145, 12] n (fun g v s12 wr2 => ∃ k : Nat, k ≤ n ∧ g = n - k ∧ v = .int .i64 k ∧ s12 = .int .i64 ((SA xs.length : Int) - (SB k : Int)) ∧ w7 = wr2)
      case atStart => exact ⟨0, Nat.zero_le _, rfl, rfl, by rw [HSB.out.1]; simp, rfl⟩
      case round =>
        obtain ⟨k, hk, rfl, rfl, rfl, rfl⟩ := hrel
        by_cases hkn : k < n
        · obtain ⟨b3, o3, a3, c3, rfl, _, hrow3⟩ := Ht.out.rowAt (tabN_get (by rw [Hts.out]; exact hkn))
          have hc3 := (hrow3 w7 (Below.refl _ _)).1
          have hl3 : (rowOf xs.length (ts.getD k 0)).length ≤ 30 := Nat.le_trans (rowOf_len _ _) hl
          have HSn := Lib.hid (HSB.out.2.1 k)
          have hb1 := HSB.out.2.2.1 k hk
          clear hrow3
          generalize (rowOf xs.length (ts.getD k 0)).length = L at *
          obtain ⟨p, hp⟩ : ∃ p, p = SB k := ⟨_, rfl⟩
          obtain ⟨S, hS⟩ : ∃ S, S = SA xs.length := ⟨_, rfl⟩
          have HS := Lib.hid hS
          rw [← hp, ← hS] at hb1
          rw [← hS] at hpb
          rw [← hp] at HSn
          rw [← hp, ← hS]
          clear hp hS
          go_wp2_with fail
          go_roundg (n - (k + 1))
          case measure => omega
          case rel => exact ⟨k + 1, by omega, rfl, by go_num, by rw [HSn.out, ← HS.out]; go_num, rfl⟩
        · obtain rfl : k = n := by omega
          rw [HSB.out.2.2.2, Int.sub_self]
          go_wp2_with fail
          clear hc1_0 hc1_1
          refine (HTb.out A1 E1 w7 Ht.out).mono ?_
          rintro e w8 ⟨A2, E2, rfl, hbt, hb⟩
          have H8 := Lib.hid ((H7.out.call hb).alloc #[.int .i64 (k : Int), .slice A2 xs.length E2] 26 rfl rfl)
          replace Ht := Lib.hid ((Ht.out.later hb).later ((Below.refl w8.heap.size w8).alloc (Nat.le_refl _) (.cells #[.int .i64 (k : Int), .slice A2 xs.length E2] 26)))
          have Hb := Lib.hid (hbt.later ((Below.refl w8.heap.size w8).alloc (Nat.le_refl _) (.cells #[.int .i64 (k : Int), .slice A2 xs.length E2] 26)))
          clear hbt
          clear hb H7 HTb
          have hc0_0 := H8.out.cell (k := 0) (i := 0) rfl rfl
          have hc0_1 := H8.out.cell (k := 0) (i := 1) rfl rfl
          obtain ⟨v8, hv⟩ : ∃ x, x = w8.alloc (.cells #[.int .i64 (k : Int), .slice A2 xs.length E2] 26) := ⟨_, rfl⟩
          go_wp2_with fail
          clear hc0_0 hc0_1
          rw [← hv]
          rw [← hv] at H8 Ht Hb
          generalize w8.heap.size = q3 at *
          clear hv
          refine (HRx.out v8 H8.out.below).mono ?_
          rintro e w9 ⟨rfl, hb⟩
          have H9 := Lib.hid (H8.out.call hb)
          replace Ht := Lib.hid (Ht.out.later hb)
          replace Hb := Lib.hid (Hb.out.later hb)
          clear hb H8 HRx
          have hc1_0 := H9.out.cell (k := 1) (i := 0) rfl rfl
          have hc1_1 := H9.out.cell (k := 1) (i := 1) rfl rfl
          go_wp2_with fail
          clear hc1_0 hc1_1
          refine (HRt.out A1 E1 w9 Ht.out).mono ?_
          rintro e w10 ⟨rfl, hb⟩
          have H10 := Lib.hid (H9.out.call hb)
          replace Ht := Lib.hid (Ht.out.later hb)
          replace Hb := Lib.hid (Hb.out.later hb)
          clear hb H9 HRt
          have hc2_0 := H10.out.cell (k := 2) (i := 0) rfl rfl
          have hc2_1 := H10.out.cell (k := 2) (i := 1) rfl rfl
          go_wp2_with fail
          clear hc2_0 hc2_1
          refine (HE.out A2 E2 w10 H10.out.below Hb.out).mono ?_
          rintro e w11 ⟨rfl, hb⟩
          have H11 := Lib.hid (H10.out.call hb)
          replace Ht := Lib.hid (Ht.out.later hb)
          replace Hb := Lib.hid (Hb.out.later hb)
          clear hb H10 HE
          go_wp2_with fail
          refine (matrix_any m ys.length b d w11).mono ?_
          rintro e w12 ⟨rfl, hb⟩
          have H12 := Lib.hid ((H11.out.call hb).alloc #[.int .i64 (m : Int), .slice b ys.length d] 26 rfl rfl)
          replace Ht := Lib.hid ((Ht.out.later hb).later ((Below.refl w12.heap.size w12).alloc (Nat.le_refl _) (.cells #[.int .i64 (m : Int), .slice b ys.length d] 26)))
          clear hb H11 
          have hc0_0 := H12.out.cell (k := 0) (i := 0) rfl rfl
          have hc0_1 := H12.out.cell (k := 0) (i := 1) rfl rfl
          have hc3_0 := H12.out.cell (k := 3) (i := 0) rfl rfl
          have hc3_1 := H12.out.cell (k := 3) (i := 1) rfl rfl
          obtain ⟨v12, hv⟩ : ∃ x, x = w12.alloc (.cells #[.int .i64 (m : Int), .slice b ys.length d] 26) := ⟨_, rfl⟩
          go_wp2_with fail
          clear hc0_0 hc0_1 hc3_0 hc3_1
          rw [← hv]
          rw [← hv] at H12 Ht
          generalize w12.heap.size = q4 at *
          clear hv
          refine (HMu.out v12 H12.out.below).mono ?_
          rintro e w13 ⟨A3, E3, rfl, hbt, hb⟩
          have H13 := Lib.hid ((H12.out.call hb).alloc #[.int .i64 (m : Int), .slice A3 xs.length E3] 26 rfl rfl)
          replace Ht := Lib.hid ((Ht.out.later hb).later ((Below.refl w13.heap.size w13).alloc (Nat.le_refl _) (.cells #[.int .i64 (m : Int), .slice A3 xs.length E3] 26)))
          have Hz := Lib.hid (hbt.later ((Below.refl w13.heap.size w13).alloc (Nat.le_refl _) (.cells #[.int .i64 (m : Int), .slice A3 xs.length E3] 26)))
          clear hbt
          clear hb H12 HMu
          obtain ⟨v13, hv⟩ : ∃ x, x = w13.alloc (.cells #[.int .i64 (m : Int), .slice A3 xs.length E3] 26) := ⟨_, rfl⟩
          go_wp2_with fail
          rw [← hv]
          rw [← hv] at H13 Ht Hz
          generalize w13.heap.size = q5 at *
          clear hv
          go_ret
          exact ⟨rfl, H13.out.below⟩
end Go.Proofs.Ytlgiponfcmeiiaa
