/- The walk of the law GftwoValues. -/
import Derived.Test.YtlgiponfcmeiiaaTrW
import Derived.Test.YtlgiponfcmeiiaaEqW
import Derived.Test.YtlgiponfcmeiiaaValP
namespace Go.Proofs.Ytlgiponfcmeiiaa
open Go Go.RowKit
set_option maxRecDepth 100000 in
set_option maxHeartbeats 4000000 in
theorem lval_s (C : Int) (T : List (List Int)) (a : Option Addr) (c : Nat) (w : World) (hs : smallB C T = false) (hT : TabAt w a T) :
    Calls Try.prog 10 #[.int .i64 C, .slice a T.length c] w fun e w' => e = .returned (.bool true) ∧ Below w.heap.size w w' := by
  have HS1 : Hid (∀ W', Below w.heap.size w W' → Calls Try.prog 12 #[.int .i64 C, .slice a T.length c] W' fun e w' => e = .returned (.int .i64 (sI (smallB C T))) ∧ Below W'.heap.size W' w') := Lib.hid fun W' h => small_any C T a c W' (hT.later h)
  rw [hs, show sI false = 0 from rfl] at HS1
  clear hs hT
  go_enter Try.func10, Try.ntmps10
  go_wp2_with fail
  refine (awake_any w).mono ?_
  rintro e w1 ⟨rfl, hb⟩
  have H1 := Lib.hid ((HH.start w).call hb)
  clear hb
  go_wp2_with fail
  refine (HS1.out w1 H1.out.below).mono ?_
  rintro e w2 ⟨rfl, hb⟩
  have H2 := Lib.hid (H1.out.call hb)
  clear hb H1 
  go_wp2_with fail
  go_ret
  exact ⟨rfl, H2.out.below⟩
set_option maxRecDepth 100000 in
set_option maxHeartbeats 4000000 in
theorem lval_11 (C : Int) (T : List (List Int)) (a : Option Addr) (c : Nat) (w : World) (hs : smallB C T = true) (HRk0 : ∀ W', Below w.heap.size w W' → Calls Try.prog 14 #[.agg #[.int .i64 C, .slice a T.length c]] W' fun e w' => ∃ r : Int, e = .returned (.tuple #[.int .i64 r, .int .i64 1]) ∧ Below W'.heap.size W' w')
    (HTr0 : ∀ W', Below w.heap.size w W' → Calls Try.prog 25 #[.agg #[.int .i64 C, .slice a T.length c]] W' fun e w' => ∃ (D : Int) (A : Option Addr) (n E : Nat), e = .returned (.tuple #[.agg #[.int .i64 D, .slice A n E], .int .i64 1]) ∧ Below W'.heap.size W' w')
    (HMu0 : ∀ W', Below w.heap.size w W' → Calls Try.prog 23 #[.agg #[.int .i64 C, .slice a T.length c], .agg #[.int .i64 C, .slice a T.length c]] W' fun e w' => ∃ (D : Int) (A : Option Addr) (n E : Nat), e = .returned (.tuple #[.agg #[.int .i64 D, .slice A n E], .int .i64 1]) ∧ Below W'.heap.size W' w') (hT : TabAt w a T) :
    Calls Try.prog 10 #[.int .i64 C, .slice a T.length c] w fun e w' => e = .returned (.bool true) ∧ Below w.heap.size w w' := by
  have HS1 : Hid (∀ W', Below w.heap.size w W' → Calls Try.prog 12 #[.int .i64 C, .slice a T.length c] W' fun e w' => e = .returned (.int .i64 (sI (smallB C T))) ∧ Below W'.heap.size W' w') := Lib.hid fun W' h => small_any C T a c W' (hT.later h)
  have hl := (smallB_iff.1 hs).1.1
  have Hr := Lib.hid (smallB_iff.1 hs).2
  rw [hs, show sI true = 1 from rfl] at HS1
  have HRk := Lib.hid HRk0
  have HTr := Lib.hid HTr0
  have HMu := Lib.hid HMu0
  have HE : Hid (∀ (A : Option Addr) (E : Nat) W', Below w.heap.size w W' → TabAt W' A T → Calls Try.prog 24 #[.slice a T.length c, .slice A T.length E] W' fun e w' => e = .returned (.bool true) ∧ Below W'.heap.size W' w') := Lib.hid fun A E W' h h4 => by
    have hq := equalT_any T T a A c E W' (by omega) (fun l hl => by have := Hr.out l hl; omega) (hT.later h) h4
    rw [decide_eq_true rfl] at hq
    refine hq.mono ?_
    rintro e w' ⟨rfl, k, rfl⟩
    exact ⟨rfl, (below_drewNN (Below.refl _ _) k)⟩
  have HT := Lib.hid hT
  obtain ⟨i0, hi0, hz0, hz1, hz2⟩ := info_parts Try.info36
  obtain ⟨j0, hj0, hy0, hy1, hy2⟩ := info_parts Try.info3
  clear hs hT HRk0 HTr0 HMu0
  go_enter Try.func10, Try.ntmps10
  go_wp2_with fail
  refine (awake_any w).mono ?_
  rintro e w1 ⟨rfl, hb⟩
  have H1 := Lib.hid ((HH.start w).call hb)
  clear hb
  go_wp2_with fail
  refine (HS1.out w1 H1.out.below).mono ?_
  rintro e w2 ⟨rfl, hb⟩
  have H2 := Lib.hid (H1.out.call hb)
  clear hb H1 HS1
  have hown := Own.made (w := w2) (E := 36) #[] (Nat.le_refl w2.heap.size)
  have H3 := Lib.hid (H2.out.addSl ((Below.refl w2.heap.size w2).alloc (Nat.le_refl _) (.cells #[] 36)) hown)
  clear hown
  go_wp2_with fail
  go_loopg [27, 5] T.length (fun g v s5 wr => ∃ (i : Nat) (A : Option Addr) (E : Nat) (ms : List SlO), i ≤ T.length ∧ g = T.length - i ∧ v = .int .i64 i ∧ s5 = .slice A i E ∧ ms.length = i ∧ HH w wr [] (⟨A, E, 36, ms.map slV⟩ :: ms) ∧ ∀ (m : Nat) (d : SlO), ms[m]? = some d → d.E = 3 ∧ d.vs = ints (T.getD m []))
  case atStart => exact ⟨0, _, _, [], Nat.zero_le _, rfl, rfl, rfl, rfl, H3.out, fun m x h => by simp at h⟩
  case round =>
    obtain ⟨i, A, E, ms, hi, rfl, rfl, rfl, hms, hh, hb⟩ := hrel
    have Hh := Lib.hid hh
    have Hb := Lib.hid hb
    have Hms := Lib.hid hms
    clear hh hb hms H3 H2
    by_cases hil : i < T.length
    · obtain ⟨row, hrw⟩ : ∃ row, T[i]? = some row := ⟨_, List.getElem?_eq_getElem hil⟩
      obtain ⟨b1, o1, a', c', rfl, hc', hrow⟩ := HT.out.rowAt hrw
      have hbl := Hh.out.below
      obtain ⟨W1, hW1⟩ : ∃ W, W = wr.alloc (.cells #[] 3) := ⟨_, rfl⟩
      have hbb : Below wr.heap.size wr W1 := by rw [hW1]; exact (Below.refl _ _).alloc (Nat.le_refl _) _
      have Hrow := hrow W1 (hbl.trans (hbb.mono hbl.size))
      have hcx := Hrow.1
      have hr40 : row.length ≤ 40 := Hr.out row (List.mem_of_getElem? hrw)
      have Hgr : Hid (T.getD i [] = row) := Lib.hid (by rw [List.getD_eq_getElem?_getD, hrw]; rfl)
      have Hr1 : Hid (∃ A1 E1 w2, (Builtin.append_ #[36, 36] 36 #[.slice (some ⟨wr.heap.size, 0, none⟩) 0 0, .slice a' row.length c']).run Try.prog W1 = .ok (.slice A1 row.length E1) w2 ∧ HH w w2 [] ((⟨A, E, 36, ms.map slV⟩ : SlO) :: (ms ++ [⟨A1, E1, 3, ints row⟩]))) := Lib.hid (by
        have ho : Own W1 wr.heap.size 3 (some ⟨wr.heap.size, 0, none⟩) 0 [] := by rw [hW1]; exact Own.made #[] (Nat.le_refl _)
        have hA := Hh.out.addSl hbb ho
        have hk : nthO ((⟨A, E, 36, ms.map slV⟩ : SlO) :: ms ++ [⟨some ⟨wr.heap.size, 0, none⟩, 0, 3, []⟩]) (ms.length + 1) = some ⟨some ⟨wr.heap.size, 0, none⟩, 0, 3, []⟩ := nthO_last ((⟨A, E, 36, ms.map slV⟩ : SlO) :: ms) _
        obtain ⟨A1, E1, w2, h1, h2, h3, h4⟩ := run_append_many (P := Try.prog) W1 w.heap.size 36 36 36 3 j0 (.int .i64 0) 8 Try.underlying36 Try.underlying36 hj0 hy0 hy1 hy2 rfl (some ⟨wr.heap.size, 0, none⟩) 0 [] (hA.sl hk) a' c' (ints row) Hrow.2 (ints_one _) (by rw [ints_length, List.length_nil]; omega) (by rw [ints_length, List.length_nil]; omega) hA.below.size
        rw [ints_length, List.length_nil, Nat.zero_add] at h1
        refine ⟨A1, E1, w2, h1, ?_⟩
        have := hA.grow hk h2 h3 h4
        rw [List.nil_append] at this
        have e := setO_last ((⟨A, E, 36, ms.map slV⟩ : SlO) :: ms) ⟨some ⟨wr.heap.size, 0, none⟩, 0, 3, []⟩ ⟨A1, E1, 3, ints row⟩
        rw [List.length_cons] at e
        rw [e] at this
        exact this)
      clear hrow Hrow hbb hrw
      obtain ⟨A1, E1, w2, hr1, H2⟩ := Hr1.out
      rw [hW1] at hcx hr1
      have Hr2 := Lib.hid hr1
      have Ha0 := Lib.hid (H2.call ((Below.refl _ _).alloc (Nat.le_refl _) (.cells #[.slice A1 row.length E1] 36)))
      have Hc0 : Hid ((w2.alloc (.cells #[.slice A1 row.length E1] 36)).cell? ⟨w2.heap.size, 0, none⟩ = some (.slice A1 row.length E1)) := Lib.hid ((Row.new w2 #[.slice A1 row.length E1] 36).cell 0)
      have Hl1 : Hid (w.heap.size ≤ (w2.alloc (.cells #[.slice A1 row.length E1] 36)).heap.size) := Lib.hid Ha0.out.below.size
      have Hn0 : Hid ((ms.map slV).length = i) := Lib.hid (by rw [List.length_map]; exact Hms.out)
      clear hr1 H2 hW1 Hr1
      go_wp2_with (first
        | (with_reducible refine wpList_append_run rfl (.tmp 31) (.tmp 35) #[36, 36] rfl (.slice (some ⟨wr.heap.size, 0, none⟩) 0 0) (.slice a' row.length c') _ _ rfl rfl Hr2.out ?_)
        | (with_reducible refine wpList_append_one rfl (.tmp 30) (.tmp 37) 22 rfl w.heap.size 36 i0 (.slice none 0 0) 24 Try.underlying22 hi0 hz0 hz1 hz2 rfl A i E (ms.map slV) rfl Hn0.out (Ha0.out.sl (k := 0) rfl) _ 1 (.slice A1 row.length E1) rfl Hc0.out rfl (by omega) (by omega) Hl1.out ?_; intro A2 e2 w3 hO2 hT2 hA2; have H3 := Lib.hid (Ha0.out.grow (k := 0) rfl hO2 hT2 hA2); clear hO2 hT2 hA2))
      go_roundg (T.length - (i + 1))
      case measure => omega
      case rel =>
        refine ⟨i + 1, A2, e2, ms ++ [⟨A1, E1, 3, ints row⟩], by omega, rfl, by go_num, rfl, by rw [List.length_append, Hms.out]; rfl, ?_, snoc_all Hb.out ⟨rfl, by rw [Hms.out, Hgr.out]⟩⟩
        have h := H3.out
        rw [List.map_append]
        have e : List.map slV [(⟨A1, E1, 3, ints row⟩ : SlO)] = [.slice A1 row.length E1] := by
          show [slV _] = _
          unfold slV
          rw [ints_length]
        rw [e]
        exact h
    · obtain rfl : i = T.length := by omega
      have Hw : Hid (TabAt wr A T) := Lib.hid ((rowsAt_of (Hh.out.forget (List.sublist_cons_self _ _)) Hms.out Hb.out).tab (Hh.out.sl (k := 0) rfl).at)
      have H4 : Hid (HH w wr [] []) := Lib.hid (Hh.out.forget (List.nil_sublist _))
      clear Hh Hb Hms HT
      go_wp2_with fail
      refine (matrix_any C T.length a c wr).mono ?_
      rintro e w5 ⟨rfl, hb⟩
      have H5 := Lib.hid ((H4.out.call hb).alloc #[.int .i64 C, .slice a T.length c] 26 rfl rfl)
      replace Hw := Lib.hid ((Hw.out.later hb).later ((Below.refl w5.heap.size w5).alloc (Nat.le_refl _) (.cells #[.int .i64 C, .slice a T.length c] 26)))
      clear hb H4 
      have hc0_0 := H5.out.cell (k := 0) (i := 0) rfl rfl
      have hc0_1 := H5.out.cell (k := 0) (i := 1) rfl rfl
      obtain ⟨v5, hv⟩ : ∃ x, x = w5.alloc (.cells #[.int .i64 C, .slice a T.length c] 26) := ⟨_, rfl⟩
      go_wp2_with fail
      clear hc0_0 hc0_1
      rw [← hv]
      rw [← hv] at H5 Hw
      generalize w5.heap.size = q1 at *
      clear hv
      refine (HRk.out v5 H5.out.below).mono ?_
      rintro e w6 ⟨r0, rfl, hb⟩
      have H6 := Lib.hid (H5.out.call hb)
      replace Hw := Lib.hid (Hw.out.later hb)
      clear hb H5 HRk
      have hc0_0 := H6.out.cell (k := 0) (i := 0) rfl rfl
      have hc0_1 := H6.out.cell (k := 0) (i := 1) rfl rfl
      go_wp2_with fail
      clear hc0_0 hc0_1
      refine (HTr.out w6 H6.out.below).mono ?_
      rintro e w7 ⟨D1, A5, n5, E5, rfl, hb⟩
      have H7 := Lib.hid ((H6.out.call hb).alloc #[.int .i64 D1, .slice A5 n5 E5] 26 rfl rfl)
      replace Hw := Lib.hid ((Hw.out.later hb).later ((Below.refl w7.heap.size w7).alloc (Nat.le_refl _) (.cells #[.int .i64 D1, .slice A5 n5 E5] 26)))
      clear hb H6 HTr
      have hc0_0 := H7.out.cell (k := 0) (i := 0) rfl rfl
      have hc0_1 := H7.out.cell (k := 0) (i := 1) rfl rfl
      obtain ⟨v7, hv⟩ : ∃ x, x = w7.alloc (.cells #[.int .i64 D1, .slice A5 n5 E5] 26) := ⟨_, rfl⟩
      go_wp2_with fail
      clear hc0_0 hc0_1
      rw [← hv]
      rw [← hv] at H7 Hw
      generalize w7.heap.size = q2 at *
      clear hv
      refine (HMu.out v7 H7.out.below).mono ?_
      rintro e w8 ⟨D2, A6, n6, E6, rfl, hb⟩
      have H8 := Lib.hid ((H7.out.call hb).alloc #[.int .i64 D2, .slice A6 n6 E6] 26 rfl rfl)
      replace Hw := Lib.hid ((Hw.out.later hb).later ((Below.refl w8.heap.size w8).alloc (Nat.le_refl _) (.cells #[.int .i64 D2, .slice A6 n6 E6] 26)))
      clear hb H7 HMu
      obtain ⟨v8, hv⟩ : ∃ x, x = w8.alloc (.cells #[.int .i64 D2, .slice A6 n6 E6] 26) := ⟨_, rfl⟩
      go_wp2_with fail
      rw [← hv]
      rw [← hv] at H8 Hw
      generalize w8.heap.size = q3 at *
      clear hv
      refine (matrix_any 65537 0 none 0 v8).mono ?_
      rintro e w9 ⟨rfl, hb⟩
      have H9 := Lib.hid (H8.out.call hb)
      replace Hw := Lib.hid (Hw.out.later hb)
      clear hb H8 
      go_wp2_with fail
      refine (over_rank w9).mono ?_
      rintro e w10 ⟨rfl, hb⟩
      have H10 := Lib.hid (H9.out.call hb)
      replace Hw := Lib.hid (Hw.out.later hb)
      clear hb H9 
      obtain ⟨V, hV⟩ : ∃ V, V = (((w10.alloc (.cells #[.int .i64 65535] 3)).alloc (.cells #[.int .i64 0] 3)).alloc (.cells #[.int .i64 0] 3)).alloc (.cells #[.slice (some ⟨w10.heap.size, 0, none⟩) 1 1, .slice (some ⟨w10.heap.size + 1, 0, none⟩) 1 1, .slice (some ⟨w10.heap.size + 1 + 1, 0, none⟩) 1 1] 36) := ⟨_, rfl⟩
      have h0 : HH w10 V [(w10.heap.size, rowO 3 (ints [65535])), (w10.heap.size + 1, rowO 3 (ints [0])), (w10.heap.size + 1 + 1, rowO 3 (ints [0])), (w10.heap.size + 1 + 1 + 1, rowO 36 [.slice (some ⟨w10.heap.size, 0, none⟩) 1 1, .slice (some ⟨w10.heap.size + 1, 0, none⟩) 1 1, .slice (some ⟨w10.heap.size + 1 + 1, 0, none⟩) 1 1])] [] := by
        rw [hV]; exact ((((HH.start w10).alloc #[.int .i64 65535] 3 rfl rfl).alloc #[.int .i64 0] 3 (by simp) rfl).alloc #[.int .i64 0] 3 (by simp) rfl).alloc #[.slice (some ⟨w10.heap.size, 0, none⟩) 1 1, .slice (some ⟨w10.heap.size + 1, 0, none⟩) 1 1, .slice (some ⟨w10.heap.size + 1 + 1, 0, none⟩) 1 1] 36 (by simp) rfl
      have Hbig := Lib.hid (tab3 (h0.row (k := 3) rfl) rfl rfl rfl (h0.row (k := 0) rfl) (h0.row (k := 1) rfl) (h0.row (k := 2) rfl))
      have H11 := Lib.hid (H10.out.call h0.below)
      replace Hw := Lib.hid (Hw.out.later h0.below)
      clear h0 H10
      go_wp2_with fail
      rw [← hV]
      clear hV
      refine (matrix_any 65536 3 _ 3 V).mono ?_
      rintro e w12 ⟨rfl, hb⟩
      have H12 := Lib.hid (H11.out.call hb)
      replace Hw := Lib.hid (Hw.out.later hb)
      replace Hbig := Lib.hid (Hbig.out.later hb)
      clear hb H11 
      go_wp2_with fail
      refine (big_rank _ 3 w12 Hbig.out).mono ?_
      rintro e w13 ⟨rfl, hb⟩
      have H13 := Lib.hid (H12.out.call hb)
      replace Hw := Lib.hid (Hw.out.later hb)
      clear hb H12 Hbig
      go_wp2_with fail
      refine (HE.out A E w13 H13.out.below Hw.out).mono ?_
      rintro e w14 ⟨rfl, hb⟩
      have H14 := Lib.hid (H13.out.call hb)
      replace Hw := Lib.hid (Hw.out.later hb)
      clear hb H13 HE
      go_wp2_with fail
      go_ret
      exact ⟨rfl, H14.out.below⟩
set_option maxRecDepth 100000 in
set_option maxHeartbeats 4000000 in
theorem lval_00 (C : Int) (T : List (List Int)) (a : Option Addr) (c : Nat) (w : World) (hs : smallB C T = true) (HRk0 : ∀ W', Below w.heap.size w W' → Calls Try.prog 14 #[.agg #[.int .i64 C, .slice a T.length c]] W' fun e w' => ∃ r : Int, e = .returned (.tuple #[.int .i64 r, .int .i64 0]) ∧ Below W'.heap.size W' w')
    (HTr0 : ∀ W', Below w.heap.size w W' → Calls Try.prog 25 #[.agg #[.int .i64 C, .slice a T.length c]] W' fun e w' => ∃ (D : Int) (A : Option Addr) (n E : Nat), e = .returned (.tuple #[.agg #[.int .i64 D, .slice A n E], .int .i64 0]) ∧ Below W'.heap.size W' w')
    (HMu0 : ∀ W', Below w.heap.size w W' → Calls Try.prog 23 #[.agg #[.int .i64 C, .slice a T.length c], .agg #[.int .i64 C, .slice a T.length c]] W' fun e w' => ∃ (D : Int) (A : Option Addr) (n E : Nat), e = .returned (.tuple #[.agg #[.int .i64 D, .slice A n E], .int .i64 0]) ∧ Below W'.heap.size W' w') (hT : TabAt w a T) :
    Calls Try.prog 10 #[.int .i64 C, .slice a T.length c] w fun e w' => e = .returned (.bool true) ∧ Below w.heap.size w w' := by
  have HS1 : Hid (∀ W', Below w.heap.size w W' → Calls Try.prog 12 #[.int .i64 C, .slice a T.length c] W' fun e w' => e = .returned (.int .i64 (sI (smallB C T))) ∧ Below W'.heap.size W' w') := Lib.hid fun W' h => small_any C T a c W' (hT.later h)
  have hl := (smallB_iff.1 hs).1.1
  have Hr := Lib.hid (smallB_iff.1 hs).2
  rw [hs, show sI true = 1 from rfl] at HS1
  have HRk := Lib.hid HRk0
  have HTr := Lib.hid HTr0
  have HMu := Lib.hid HMu0
  have HE : Hid (∀ (A : Option Addr) (E : Nat) W', Below w.heap.size w W' → TabAt W' A T → Calls Try.prog 24 #[.slice a T.length c, .slice A T.length E] W' fun e w' => e = .returned (.bool true) ∧ Below W'.heap.size W' w') := Lib.hid fun A E W' h h4 => by
    have hq := equalT_any T T a A c E W' (by omega) (fun l hl => by have := Hr.out l hl; omega) (hT.later h) h4
    rw [decide_eq_true rfl] at hq
    refine hq.mono ?_
    rintro e w' ⟨rfl, k, rfl⟩
    exact ⟨rfl, (below_drewNN (Below.refl _ _) k)⟩
  have HT := Lib.hid hT
  obtain ⟨i0, hi0, hz0, hz1, hz2⟩ := info_parts Try.info36
  obtain ⟨j0, hj0, hy0, hy1, hy2⟩ := info_parts Try.info3
  clear hs hT HRk0 HTr0 HMu0
  go_enter Try.func10, Try.ntmps10
  go_wp2_with fail
  refine (awake_any w).mono ?_
  rintro e w1 ⟨rfl, hb⟩
  have H1 := Lib.hid ((HH.start w).call hb)
  clear hb
  go_wp2_with fail
  refine (HS1.out w1 H1.out.below).mono ?_
  rintro e w2 ⟨rfl, hb⟩
  have H2 := Lib.hid (H1.out.call hb)
  clear hb H1 HS1
  have hown := Own.made (w := w2) (E := 36) #[] (Nat.le_refl w2.heap.size)
  have H3 := Lib.hid (H2.out.addSl ((Below.refl w2.heap.size w2).alloc (Nat.le_refl _) (.cells #[] 36)) hown)
  clear hown
  go_wp2_with fail
  go_loopg [27, 5] T.length (fun g v s5 wr => ∃ (i : Nat) (A : Option Addr) (E : Nat) (ms : List SlO), i ≤ T.length ∧ g = T.length - i ∧ v = .int .i64 i ∧ s5 = .slice A i E ∧ ms.length = i ∧ HH w wr [] (⟨A, E, 36, ms.map slV⟩ :: ms) ∧ ∀ (m : Nat) (d : SlO), ms[m]? = some d → d.E = 3 ∧ d.vs = ints (T.getD m []))
  case atStart => exact ⟨0, _, _, [], Nat.zero_le _, rfl, rfl, rfl, rfl, H3.out, fun m x h => by simp at h⟩
  case round =>
    obtain ⟨i, A, E, ms, hi, rfl, rfl, rfl, hms, hh, hb⟩ := hrel
    have Hh := Lib.hid hh
    have Hb := Lib.hid hb
    have Hms := Lib.hid hms
    clear hh hb hms H3 H2
    by_cases hil : i < T.length
    · obtain ⟨row, hrw⟩ : ∃ row, T[i]? = some row := ⟨_, List.getElem?_eq_getElem hil⟩
      obtain ⟨b1, o1, a', c', rfl, hc', hrow⟩ := HT.out.rowAt hrw
      have hbl := Hh.out.below
      obtain ⟨W1, hW1⟩ : ∃ W, W = wr.alloc (.cells #[] 3) := ⟨_, rfl⟩
      have hbb : Below wr.heap.size wr W1 := by rw [hW1]; exact (Below.refl _ _).alloc (Nat.le_refl _) _
      have Hrow := hrow W1 (hbl.trans (hbb.mono hbl.size))
      have hcx := Hrow.1
      have hr40 : row.length ≤ 40 := Hr.out row (List.mem_of_getElem? hrw)
      have Hgr : Hid (T.getD i [] = row) := Lib.hid (by rw [List.getD_eq_getElem?_getD, hrw]; rfl)
      have Hr1 : Hid (∃ A1 E1 w2, (Builtin.append_ #[36, 36] 36 #[.slice (some ⟨wr.heap.size, 0, none⟩) 0 0, .slice a' row.length c']).run Try.prog W1 = .ok (.slice A1 row.length E1) w2 ∧ HH w w2 [] ((⟨A, E, 36, ms.map slV⟩ : SlO) :: (ms ++ [⟨A1, E1, 3, ints row⟩]))) := Lib.hid (by
        have ho : Own W1 wr.heap.size 3 (some ⟨wr.heap.size, 0, none⟩) 0 [] := by rw [hW1]; exact Own.made #[] (Nat.le_refl _)
        have hA := Hh.out.addSl hbb ho
        have hk : nthO ((⟨A, E, 36, ms.map slV⟩ : SlO) :: ms ++ [⟨some ⟨wr.heap.size, 0, none⟩, 0, 3, []⟩]) (ms.length + 1) = some ⟨some ⟨wr.heap.size, 0, none⟩, 0, 3, []⟩ := nthO_last ((⟨A, E, 36, ms.map slV⟩ : SlO) :: ms) _
        obtain ⟨A1, E1, w2, h1, h2, h3, h4⟩ := run_append_many (P := Try.prog) W1 w.heap.size 36 36 36 3 j0 (.int .i64 0) 8 Try.underlying36 Try.underlying36 hj0 hy0 hy1 hy2 rfl (some ⟨wr.heap.size, 0, none⟩) 0 [] (hA.sl hk) a' c' (ints row) Hrow.2 (ints_one _) (by rw [ints_length, List.length_nil]; omega) (by rw [ints_length, List.length_nil]; omega) hA.below.size
        rw [ints_length, List.length_nil, Nat.zero_add] at h1
        refine ⟨A1, E1, w2, h1, ?_⟩
        have := hA.grow hk h2 h3 h4
        rw [List.nil_append] at this
        have e := setO_last ((⟨A, E, 36, ms.map slV⟩ : SlO) :: ms) ⟨some ⟨wr.heap.size, 0, none⟩, 0, 3, []⟩ ⟨A1, E1, 3, ints row⟩
        rw [List.length_cons] at e
        rw [e] at this
        exact this)
      clear hrow Hrow hbb hrw
      obtain ⟨A1, E1, w2, hr1, H2⟩ := Hr1.out
      rw [hW1] at hcx hr1
      have Hr2 := Lib.hid hr1
      have Ha0 := Lib.hid (H2.call ((Below.refl _ _).alloc (Nat.le_refl _) (.cells #[.slice A1 row.length E1] 36)))
      have Hc0 : Hid ((w2.alloc (.cells #[.slice A1 row.length E1] 36)).cell? ⟨w2.heap.size, 0, none⟩ = some (.slice A1 row.length E1)) := Lib.hid ((Row.new w2 #[.slice A1 row.length E1] 36).cell 0)
      have Hl1 : Hid (w.heap.size ≤ (w2.alloc (.cells #[.slice A1 row.length E1] 36)).heap.size) := Lib.hid Ha0.out.below.size
      have Hn0 : Hid ((ms.map slV).length = i) := Lib.hid (by rw [List.length_map]; exact Hms.out)
      clear hr1 H2 hW1 Hr1
      go_wp2_with (first
        | (with_reducible refine wpList_append_run rfl (.tmp 31) (.tmp 35) #[36, 36] rfl (.slice (some ⟨wr.heap.size, 0, none⟩) 0 0) (.slice a' row.length c') _ _ rfl rfl Hr2.out ?_)
        | (with_reducible refine wpList_append_one rfl (.tmp 30) (.tmp 37) 22 rfl w.heap.size 36 i0 (.slice none 0 0) 24 Try.underlying22 hi0 hz0 hz1 hz2 rfl A i E (ms.map slV) rfl Hn0.out (Ha0.out.sl (k := 0) rfl) _ 1 (.slice A1 row.length E1) rfl Hc0.out rfl (by omega) (by omega) Hl1.out ?_; intro A2 e2 w3 hO2 hT2 hA2; have H3 := Lib.hid (Ha0.out.grow (k := 0) rfl hO2 hT2 hA2); clear hO2 hT2 hA2))
      go_roundg (T.length - (i + 1))
      case measure => omega
      case rel =>
        refine ⟨i + 1, A2, e2, ms ++ [⟨A1, E1, 3, ints row⟩], by omega, rfl, by go_num, rfl, by rw [List.length_append, Hms.out]; rfl, ?_, snoc_all Hb.out ⟨rfl, by rw [Hms.out, Hgr.out]⟩⟩
        have h := H3.out
        rw [List.map_append]
        have e : List.map slV [(⟨A1, E1, 3, ints row⟩ : SlO)] = [.slice A1 row.length E1] := by
          show [slV _] = _
          unfold slV
          rw [ints_length]
        rw [e]
        exact h
    · obtain rfl : i = T.length := by omega
      have Hw : Hid (TabAt wr A T) := Lib.hid ((rowsAt_of (Hh.out.forget (List.sublist_cons_self _ _)) Hms.out Hb.out).tab (Hh.out.sl (k := 0) rfl).at)
      have H4 : Hid (HH w wr [] []) := Lib.hid (Hh.out.forget (List.nil_sublist _))
      clear Hh Hb Hms HT
      go_wp2_with fail
      refine (matrix_any C T.length a c wr).mono ?_
      rintro e w5 ⟨rfl, hb⟩
      have H5 := Lib.hid ((H4.out.call hb).alloc #[.int .i64 C, .slice a T.length c] 26 rfl rfl)
      replace Hw := Lib.hid ((Hw.out.later hb).later ((Below.refl w5.heap.size w5).alloc (Nat.le_refl _) (.cells #[.int .i64 C, .slice a T.length c] 26)))
      clear hb H4 
      have hc0_0 := H5.out.cell (k := 0) (i := 0) rfl rfl
      have hc0_1 := H5.out.cell (k := 0) (i := 1) rfl rfl
      obtain ⟨v5, hv⟩ : ∃ x, x = w5.alloc (.cells #[.int .i64 C, .slice a T.length c] 26) := ⟨_, rfl⟩
      go_wp2_with fail
      clear hc0_0 hc0_1
      rw [← hv]
      rw [← hv] at H5 Hw
      generalize w5.heap.size = q1 at *
      clear hv
      refine (HRk.out v5 H5.out.below).mono ?_
      rintro e w6 ⟨r0, rfl, hb⟩
      have H6 := Lib.hid (H5.out.call hb)
      replace Hw := Lib.hid (Hw.out.later hb)
      clear hb H5 HRk
      have hc0_0 := H6.out.cell (k := 0) (i := 0) rfl rfl
      have hc0_1 := H6.out.cell (k := 0) (i := 1) rfl rfl
      go_wp2_with fail
      clear hc0_0 hc0_1
      refine (HTr.out w6 H6.out.below).mono ?_
      rintro e w7 ⟨D1, A5, n5, E5, rfl, hb⟩
      have H7 := Lib.hid ((H6.out.call hb).alloc #[.int .i64 D1, .slice A5 n5 E5] 26 rfl rfl)
      replace Hw := Lib.hid ((Hw.out.later hb).later ((Below.refl w7.heap.size w7).alloc (Nat.le_refl _) (.cells #[.int .i64 D1, .slice A5 n5 E5] 26)))
      clear hb H6 HTr
      have hc0_0 := H7.out.cell (k := 0) (i := 0) rfl rfl
      have hc0_1 := H7.out.cell (k := 0) (i := 1) rfl rfl
      obtain ⟨v7, hv⟩ : ∃ x, x = w7.alloc (.cells #[.int .i64 D1, .slice A5 n5 E5] 26) := ⟨_, rfl⟩
      go_wp2_with fail
      clear hc0_0 hc0_1
      rw [← hv]
      rw [← hv] at H7 Hw
      generalize w7.heap.size = q2 at *
      clear hv
      refine (HMu.out v7 H7.out.below).mono ?_
      rintro e w8 ⟨D2, A6, n6, E6, rfl, hb⟩
      have H8 := Lib.hid ((H7.out.call hb).alloc #[.int .i64 D2, .slice A6 n6 E6] 26 rfl rfl)
      replace Hw := Lib.hid ((Hw.out.later hb).later ((Below.refl w8.heap.size w8).alloc (Nat.le_refl _) (.cells #[.int .i64 D2, .slice A6 n6 E6] 26)))
      clear hb H7 HMu
      obtain ⟨v8, hv⟩ : ∃ x, x = w8.alloc (.cells #[.int .i64 D2, .slice A6 n6 E6] 26) := ⟨_, rfl⟩
      go_wp2_with fail
      rw [← hv]
      rw [← hv] at H8 Hw
      generalize w8.heap.size = q3 at *
      clear hv
      refine (matrix_any 65537 0 none 0 v8).mono ?_
      rintro e w9 ⟨rfl, hb⟩
      have H9 := Lib.hid (H8.out.call hb)
      replace Hw := Lib.hid (Hw.out.later hb)
      clear hb H8 
      go_wp2_with fail
      refine (over_rank w9).mono ?_
      rintro e w10 ⟨rfl, hb⟩
      have H10 := Lib.hid (H9.out.call hb)
      replace Hw := Lib.hid (Hw.out.later hb)
      clear hb H9 
      obtain ⟨V, hV⟩ : ∃ V, V = (((w10.alloc (.cells #[.int .i64 65535] 3)).alloc (.cells #[.int .i64 0] 3)).alloc (.cells #[.int .i64 0] 3)).alloc (.cells #[.slice (some ⟨w10.heap.size, 0, none⟩) 1 1, .slice (some ⟨w10.heap.size + 1, 0, none⟩) 1 1, .slice (some ⟨w10.heap.size + 1 + 1, 0, none⟩) 1 1] 36) := ⟨_, rfl⟩
      have h0 : HH w10 V [(w10.heap.size, rowO 3 (ints [65535])), (w10.heap.size + 1, rowO 3 (ints [0])), (w10.heap.size + 1 + 1, rowO 3 (ints [0])), (w10.heap.size + 1 + 1 + 1, rowO 36 [.slice (some ⟨w10.heap.size, 0, none⟩) 1 1, .slice (some ⟨w10.heap.size + 1, 0, none⟩) 1 1, .slice (some ⟨w10.heap.size + 1 + 1, 0, none⟩) 1 1])] [] := by
        rw [hV]; exact ((((HH.start w10).alloc #[.int .i64 65535] 3 rfl rfl).alloc #[.int .i64 0] 3 (by simp) rfl).alloc #[.int .i64 0] 3 (by simp) rfl).alloc #[.slice (some ⟨w10.heap.size, 0, none⟩) 1 1, .slice (some ⟨w10.heap.size + 1, 0, none⟩) 1 1, .slice (some ⟨w10.heap.size + 1 + 1, 0, none⟩) 1 1] 36 (by simp) rfl
      have Hbig := Lib.hid (tab3 (h0.row (k := 3) rfl) rfl rfl rfl (h0.row (k := 0) rfl) (h0.row (k := 1) rfl) (h0.row (k := 2) rfl))
      have H11 := Lib.hid (H10.out.call h0.below)
      replace Hw := Lib.hid (Hw.out.later h0.below)
      clear h0 H10
      go_wp2_with fail
      rw [← hV]
      clear hV
      refine (matrix_any 65536 3 _ 3 V).mono ?_
      rintro e w12 ⟨rfl, hb⟩
      have H12 := Lib.hid (H11.out.call hb)
      replace Hw := Lib.hid (Hw.out.later hb)
      replace Hbig := Lib.hid (Hbig.out.later hb)
      clear hb H11 
      go_wp2_with fail
      refine (big_rank _ 3 w12 Hbig.out).mono ?_
      rintro e w13 ⟨rfl, hb⟩
      have H13 := Lib.hid (H12.out.call hb)
      replace Hw := Lib.hid (Hw.out.later hb)
      clear hb H12 Hbig
      go_wp2_with fail
      refine (HE.out A E w13 H13.out.below Hw.out).mono ?_
      rintro e w14 ⟨rfl, hb⟩
      have H14 := Lib.hid (H13.out.call hb)
      replace Hw := Lib.hid (Hw.out.later hb)
      clear hb H13 HE
      go_wp2_with fail
      go_ret
      exact ⟨rfl, H14.out.below⟩
set_option maxRecDepth 100000 in
set_option maxHeartbeats 4000000 in
theorem lval_02 (C : Int) (T : List (List Int)) (a : Option Addr) (c : Nat) (w : World) (hs : smallB C T = true) (HRk0 : ∀ W', Below w.heap.size w W' → Calls Try.prog 14 #[.agg #[.int .i64 C, .slice a T.length c]] W' fun e w' => ∃ r : Int, e = .returned (.tuple #[.int .i64 r, .int .i64 0]) ∧ Below W'.heap.size W' w')
    (HTr0 : ∀ W', Below w.heap.size w W' → Calls Try.prog 25 #[.agg #[.int .i64 C, .slice a T.length c]] W' fun e w' => ∃ (D : Int) (A : Option Addr) (n E : Nat), e = .returned (.tuple #[.agg #[.int .i64 D, .slice A n E], .int .i64 0]) ∧ Below W'.heap.size W' w')
    (HMu0 : ∀ W', Below w.heap.size w W' → Calls Try.prog 23 #[.agg #[.int .i64 C, .slice a T.length c], .agg #[.int .i64 C, .slice a T.length c]] W' fun e w' => ∃ (D : Int) (A : Option Addr) (n E : Nat), e = .returned (.tuple #[.agg #[.int .i64 D, .slice A n E], .int .i64 2]) ∧ Below W'.heap.size W' w') (hT : TabAt w a T) :
    Calls Try.prog 10 #[.int .i64 C, .slice a T.length c] w fun e w' => e = .returned (.bool true) ∧ Below w.heap.size w w' := by
  have HS1 : Hid (∀ W', Below w.heap.size w W' → Calls Try.prog 12 #[.int .i64 C, .slice a T.length c] W' fun e w' => e = .returned (.int .i64 (sI (smallB C T))) ∧ Below W'.heap.size W' w') := Lib.hid fun W' h => small_any C T a c W' (hT.later h)
  have hl := (smallB_iff.1 hs).1.1
  have Hr := Lib.hid (smallB_iff.1 hs).2
  rw [hs, show sI true = 1 from rfl] at HS1
  have HRk := Lib.hid HRk0
  have HTr := Lib.hid HTr0
  have HMu := Lib.hid HMu0
  have HE : Hid (∀ (A : Option Addr) (E : Nat) W', Below w.heap.size w W' → TabAt W' A T → Calls Try.prog 24 #[.slice a T.length c, .slice A T.length E] W' fun e w' => e = .returned (.bool true) ∧ Below W'.heap.size W' w') := Lib.hid fun A E W' h h4 => by
    have hq := equalT_any T T a A c E W' (by omega) (fun l hl => by have := Hr.out l hl; omega) (hT.later h) h4
    rw [decide_eq_true rfl] at hq
    refine hq.mono ?_
    rintro e w' ⟨rfl, k, rfl⟩
    exact ⟨rfl, (below_drewNN (Below.refl _ _) k)⟩
  have HT := Lib.hid hT
  obtain ⟨i0, hi0, hz0, hz1, hz2⟩ := info_parts Try.info36
  obtain ⟨j0, hj0, hy0, hy1, hy2⟩ := info_parts Try.info3
  clear hs hT HRk0 HTr0 HMu0
  go_enter Try.func10, Try.ntmps10
  go_wp2_with fail
  refine (awake_any w).mono ?_
  rintro e w1 ⟨rfl, hb⟩
  have H1 := Lib.hid ((HH.start w).call hb)
  clear hb
  go_wp2_with fail
  refine (HS1.out w1 H1.out.below).mono ?_
  rintro e w2 ⟨rfl, hb⟩
  have H2 := Lib.hid (H1.out.call hb)
  clear hb H1 HS1
  have hown := Own.made (w := w2) (E := 36) #[] (Nat.le_refl w2.heap.size)
  have H3 := Lib.hid (H2.out.addSl ((Below.refl w2.heap.size w2).alloc (Nat.le_refl _) (.cells #[] 36)) hown)
  clear hown
  go_wp2_with fail
  go_loopg [27, 5] T.length (fun g v s5 wr => ∃ (i : Nat) (A : Option Addr) (E : Nat) (ms : List SlO), i ≤ T.length ∧ g = T.length - i ∧ v = .int .i64 i ∧ s5 = .slice A i E ∧ ms.length = i ∧ HH w wr [] (⟨A, E, 36, ms.map slV⟩ :: ms) ∧ ∀ (m : Nat) (d : SlO), ms[m]? = some d → d.E = 3 ∧ d.vs = ints (T.getD m []))
  case atStart => exact ⟨0, _, _, [], Nat.zero_le _, rfl, rfl, rfl, rfl, H3.out, fun m x h => by simp at h⟩
  case round =>
    obtain ⟨i, A, E, ms, hi, rfl, rfl, rfl, hms, hh, hb⟩ := hrel
    have Hh := Lib.hid hh
    have Hb := Lib.hid hb
    have Hms := Lib.hid hms
    clear hh hb hms H3 H2
    by_cases hil : i < T.length
    · obtain ⟨row, hrw⟩ : ∃ row, T[i]? = some row := ⟨_, List.getElem?_eq_getElem hil⟩
      obtain ⟨b1, o1, a', c', rfl, hc', hrow⟩ := HT.out.rowAt hrw
      have hbl := Hh.out.below
      obtain ⟨W1, hW1⟩ : ∃ W, W = wr.alloc (.cells #[] 3) := ⟨_, rfl⟩
      have hbb : Below wr.heap.size wr W1 := by rw [hW1]; exact (Below.refl _ _).alloc (Nat.le_refl _) _
      have Hrow := hrow W1 (hbl.trans (hbb.mono hbl.size))
      have hcx := Hrow.1
      have hr40 : row.length ≤ 40 := Hr.out row (List.mem_of_getElem? hrw)
      have Hgr : Hid (T.getD i [] = row) := Lib.hid (by rw [List.getD_eq_getElem?_getD, hrw]; rfl)
      have Hr1 : Hid (∃ A1 E1 w2, (Builtin.append_ #[36, 36] 36 #[.slice (some ⟨wr.heap.size, 0, none⟩) 0 0, .slice a' row.length c']).run Try.prog W1 = .ok (.slice A1 row.length E1) w2 ∧ HH w w2 [] ((⟨A, E, 36, ms.map slV⟩ : SlO) :: (ms ++ [⟨A1, E1, 3, ints row⟩]))) := Lib.hid (by
        have ho : Own W1 wr.heap.size 3 (some ⟨wr.heap.size, 0, none⟩) 0 [] := by rw [hW1]; exact Own.made #[] (Nat.le_refl _)
        have hA := Hh.out.addSl hbb ho
        have hk : nthO ((⟨A, E, 36, ms.map slV⟩ : SlO) :: ms ++ [⟨some ⟨wr.heap.size, 0, none⟩, 0, 3, []⟩]) (ms.length + 1) = some ⟨some ⟨wr.heap.size, 0, none⟩, 0, 3, []⟩ := nthO_last ((⟨A, E, 36, ms.map slV⟩ : SlO) :: ms) _
        obtain ⟨A1, E1, w2, h1, h2, h3, h4⟩ := run_append_many (P := Try.prog) W1 w.heap.size 36 36 36 3 j0 (.int .i64 0) 8 Try.underlying36 Try.underlying36 hj0 hy0 hy1 hy2 rfl (some ⟨wr.heap.size, 0, none⟩) 0 [] (hA.sl hk) a' c' (ints row) Hrow.2 (ints_one _) (by rw [ints_length, List.length_nil]; omega) (by rw [ints_length, List.length_nil]; omega) hA.below.size
        rw [ints_length, List.length_nil, Nat.zero_add] at h1
        refine ⟨A1, E1, w2, h1, ?_⟩
        have := hA.grow hk h2 h3 h4
        rw [List.nil_append] at this
        have e := setO_last ((⟨A, E, 36, ms.map slV⟩ : SlO) :: ms) ⟨some ⟨wr.heap.size, 0, none⟩, 0, 3, []⟩ ⟨A1, E1, 3, ints row⟩
        rw [List.length_cons] at e
        rw [e] at this
        exact this)
      clear hrow Hrow hbb hrw
      obtain ⟨A1, E1, w2, hr1, H2⟩ := Hr1.out
      rw [hW1] at hcx hr1
      have Hr2 := Lib.hid hr1
      have Ha0 := Lib.hid (H2.call ((Below.refl _ _).alloc (Nat.le_refl _) (.cells #[.slice A1 row.length E1] 36)))
      have Hc0 : Hid ((w2.alloc (.cells #[.slice A1 row.length E1] 36)).cell? ⟨w2.heap.size, 0, none⟩ = some (.slice A1 row.length E1)) := Lib.hid ((Row.new w2 #[.slice A1 row.length E1] 36).cell 0)
      have Hl1 : Hid (w.heap.size ≤ (w2.alloc (.cells #[.slice A1 row.length E1] 36)).heap.size) := Lib.hid Ha0.out.below.size
      have Hn0 : Hid ((ms.map slV).length = i) := Lib.hid (by rw [List.length_map]; exact Hms.out)
      clear hr1 H2 hW1 Hr1
      go_wp2_with (first
        | (with_reducible refine wpList_append_run rfl (.tmp 31) (.tmp 35) #[36, 36] rfl (.slice (some ⟨wr.heap.size, 0, none⟩) 0 0) (.slice a' row.length c') _ _ rfl rfl Hr2.out ?_)
        | (with_reducible refine wpList_append_one rfl (.tmp 30) (.tmp 37) 22 rfl w.heap.size 36 i0 (.slice none 0 0) 24 Try.underlying22 hi0 hz0 hz1 hz2 rfl A i E (ms.map slV) rfl Hn0.out (Ha0.out.sl (k := 0) rfl) _ 1 (.slice A1 row.length E1) rfl Hc0.out rfl (by omega) (by omega) Hl1.out ?_; intro A2 e2 w3 hO2 hT2 hA2; have H3 := Lib.hid (Ha0.out.grow (k := 0) rfl hO2 hT2 hA2); clear hO2 hT2 hA2))
      go_roundg (T.length - (i + 1))
      case measure => omega
      case rel =>
        refine ⟨i + 1, A2, e2, ms ++ [⟨A1, E1, 3, ints row⟩], by omega, rfl, by go_num, rfl, by rw [List.length_append, Hms.out]; rfl, ?_, snoc_all Hb.out ⟨rfl, by rw [Hms.out, Hgr.out]⟩⟩
        have h := H3.out
        rw [List.map_append]
        have e : List.map slV [(⟨A1, E1, 3, ints row⟩ : SlO)] = [.slice A1 row.length E1] := by
          show [slV _] = _
          unfold slV
          rw [ints_length]
        rw [e]
        exact h
    · obtain rfl : i = T.length := by omega
      have Hw : Hid (TabAt wr A T) := Lib.hid ((rowsAt_of (Hh.out.forget (List.sublist_cons_self _ _)) Hms.out Hb.out).tab (Hh.out.sl (k := 0) rfl).at)
      have H4 : Hid (HH w wr [] []) := Lib.hid (Hh.out.forget (List.nil_sublist _))
      clear Hh Hb Hms HT
      go_wp2_with fail
      refine (matrix_any C T.length a c wr).mono ?_
      rintro e w5 ⟨rfl, hb⟩
      have H5 := Lib.hid ((H4.out.call hb).alloc #[.int .i64 C, .slice a T.length c] 26 rfl rfl)
      replace Hw := Lib.hid ((Hw.out.later hb).later ((Below.refl w5.heap.size w5).alloc (Nat.le_refl _) (.cells #[.int .i64 C, .slice a T.length c] 26)))
      clear hb H4 
      have hc0_0 := H5.out.cell (k := 0) (i := 0) rfl rfl
      have hc0_1 := H5.out.cell (k := 0) (i := 1) rfl rfl
      obtain ⟨v5, hv⟩ : ∃ x, x = w5.alloc (.cells #[.int .i64 C, .slice a T.length c] 26) := ⟨_, rfl⟩
      go_wp2_with fail
      clear hc0_0 hc0_1
      rw [← hv]
      rw [← hv] at H5 Hw
      generalize w5.heap.size = q1 at *
      clear hv
      refine (HRk.out v5 H5.out.below).mono ?_
      rintro e w6 ⟨r0, rfl, hb⟩
      have H6 := Lib.hid (H5.out.call hb)
      replace Hw := Lib.hid (Hw.out.later hb)
      clear hb H5 HRk
      have hc0_0 := H6.out.cell (k := 0) (i := 0) rfl rfl
      have hc0_1 := H6.out.cell (k := 0) (i := 1) rfl rfl
      go_wp2_with fail
      clear hc0_0 hc0_1
      refine (HTr.out w6 H6.out.below).mono ?_
      rintro e w7 ⟨D1, A5, n5, E5, rfl, hb⟩
      have H7 := Lib.hid ((H6.out.call hb).alloc #[.int .i64 D1, .slice A5 n5 E5] 26 rfl rfl)
      replace Hw := Lib.hid ((Hw.out.later hb).later ((Below.refl w7.heap.size w7).alloc (Nat.le_refl _) (.cells #[.int .i64 D1, .slice A5 n5 E5] 26)))
      clear hb H6 HTr
      have hc0_0 := H7.out.cell (k := 0) (i := 0) rfl rfl
      have hc0_1 := H7.out.cell (k := 0) (i := 1) rfl rfl
      obtain ⟨v7, hv⟩ : ∃ x, x = w7.alloc (.cells #[.int .i64 D1, .slice A5 n5 E5] 26) := ⟨_, rfl⟩
      go_wp2_with fail
      clear hc0_0 hc0_1
      rw [← hv]
      rw [← hv] at H7 Hw
      generalize w7.heap.size = q2 at *
      clear hv
      refine (HMu.out v7 H7.out.below).mono ?_
      rintro e w8 ⟨D2, A6, n6, E6, rfl, hb⟩
      have H8 := Lib.hid ((H7.out.call hb).alloc #[.int .i64 D2, .slice A6 n6 E6] 26 rfl rfl)
      replace Hw := Lib.hid ((Hw.out.later hb).later ((Below.refl w8.heap.size w8).alloc (Nat.le_refl _) (.cells #[.int .i64 D2, .slice A6 n6 E6] 26)))
      clear hb H7 HMu
      obtain ⟨v8, hv⟩ : ∃ x, x = w8.alloc (.cells #[.int .i64 D2, .slice A6 n6 E6] 26) := ⟨_, rfl⟩
      go_wp2_with fail
      rw [← hv]
      rw [← hv] at H8 Hw
      generalize w8.heap.size = q3 at *
      clear hv
      refine (matrix_any 65537 0 none 0 v8).mono ?_
      rintro e w9 ⟨rfl, hb⟩
      have H9 := Lib.hid (H8.out.call hb)
      replace Hw := Lib.hid (Hw.out.later hb)
      clear hb H8 
      go_wp2_with fail
      refine (over_rank w9).mono ?_
      rintro e w10 ⟨rfl, hb⟩
      have H10 := Lib.hid (H9.out.call hb)
      replace Hw := Lib.hid (Hw.out.later hb)
      clear hb H9 
      obtain ⟨V, hV⟩ : ∃ V, V = (((w10.alloc (.cells #[.int .i64 65535] 3)).alloc (.cells #[.int .i64 0] 3)).alloc (.cells #[.int .i64 0] 3)).alloc (.cells #[.slice (some ⟨w10.heap.size, 0, none⟩) 1 1, .slice (some ⟨w10.heap.size + 1, 0, none⟩) 1 1, .slice (some ⟨w10.heap.size + 1 + 1, 0, none⟩) 1 1] 36) := ⟨_, rfl⟩
      have h0 : HH w10 V [(w10.heap.size, rowO 3 (ints [65535])), (w10.heap.size + 1, rowO 3 (ints [0])), (w10.heap.size + 1 + 1, rowO 3 (ints [0])), (w10.heap.size + 1 + 1 + 1, rowO 36 [.slice (some ⟨w10.heap.size, 0, none⟩) 1 1, .slice (some ⟨w10.heap.size + 1, 0, none⟩) 1 1, .slice (some ⟨w10.heap.size + 1 + 1, 0, none⟩) 1 1])] [] := by
        rw [hV]; exact ((((HH.start w10).alloc #[.int .i64 65535] 3 rfl rfl).alloc #[.int .i64 0] 3 (by simp) rfl).alloc #[.int .i64 0] 3 (by simp) rfl).alloc #[.slice (some ⟨w10.heap.size, 0, none⟩) 1 1, .slice (some ⟨w10.heap.size + 1, 0, none⟩) 1 1, .slice (some ⟨w10.heap.size + 1 + 1, 0, none⟩) 1 1] 36 (by simp) rfl
      have Hbig := Lib.hid (tab3 (h0.row (k := 3) rfl) rfl rfl rfl (h0.row (k := 0) rfl) (h0.row (k := 1) rfl) (h0.row (k := 2) rfl))
      have H11 := Lib.hid (H10.out.call h0.below)
      replace Hw := Lib.hid (Hw.out.later h0.below)
      clear h0 H10
      go_wp2_with fail
      rw [← hV]
      clear hV
      refine (matrix_any 65536 3 _ 3 V).mono ?_
      rintro e w12 ⟨rfl, hb⟩
      have H12 := Lib.hid (H11.out.call hb)
      replace Hw := Lib.hid (Hw.out.later hb)
      replace Hbig := Lib.hid (Hbig.out.later hb)
      clear hb H11 
      go_wp2_with fail
      refine (big_rank _ 3 w12 Hbig.out).mono ?_
      rintro e w13 ⟨rfl, hb⟩
      have H13 := Lib.hid (H12.out.call hb)
      replace Hw := Lib.hid (Hw.out.later hb)
      clear hb H12 Hbig
      go_wp2_with fail
      refine (HE.out A E w13 H13.out.below Hw.out).mono ?_
      rintro e w14 ⟨rfl, hb⟩
      have H14 := Lib.hid (H13.out.call hb)
      replace Hw := Lib.hid (Hw.out.later hb)
      clear hb H13 HE
      go_wp2_with fail
      go_ret
      exact ⟨rfl, H14.out.below⟩
theorem lval_any (C : Int) (T : List (List Int)) (a : Option Addr) (c : Nat) (w : World) (hC : (Lit.int .i64 C).wf = true) (hT : TabAt w a T) :
    Calls Try.prog 10 #[.int .i64 C, .slice a T.length c] w fun e w' => e = .returned (.bool true) ∧ Below w.heap.size w w' := by
  by_cases hs : smallB C T = true
  · have hl := (smallB_iff.1 hs).1.1
    have hr := (smallB_iff.1 hs).2
    by_cases hv : vldM C T = true
    · obtain ⟨n, xs, h1, h2, hn6, _, hxl⟩ := vld_tab hv
      have hxs : T.length = xs.length := by rw [h2, tabN_len]
      have hT' : ∀ W', Below w.heap.size w W' → TabAt W' a (tabN n xs) := fun W' h => by rw [← h2]; exact hT.later h
      have HR : ∀ W', Below w.heap.size w W' → Calls Try.prog 14 #[.agg #[.int .i64 C, .slice a T.length c]] W' fun e w' => ∃ r : Int, e = .returned (.tuple #[.int .i64 r, .int .i64 0]) ∧ Below W'.heap.size W' w' := fun W' h => by
        rw [hxs, h1]
        exact (rank_yes n xs hxl hn6 (by omega) a c W' (hT' W' h)).mono fun e w' he => ⟨_, he.1, he.2⟩
      have HT : ∀ W', Below w.heap.size w W' → Calls Try.prog 25 #[.agg #[.int .i64 C, .slice a T.length c]] W' fun e w' => ∃ (D : Int) (A : Option Addr) (n E : Nat), e = .returned (.tuple #[.agg #[.int .i64 D, .slice A n E], .int .i64 0]) ∧ Below W'.heap.size W' w' := fun W' h => by
        rw [hxs, h1]
        exact (trans_yes n xs hn6 (by omega) a c W' (hT' W' h)).mono fun e w' ⟨A, E, he, _, hb⟩ => ⟨_, _, _, _, he, hb⟩
      by_cases heq : n = xs.length
      · refine lval_00 C T a c w hs HR HT (fun W' h => ?_) hT
        rw [hxs, h1]
        exact (mul_yes n n xs xs hxl hn6 hn6 (by omega) (by omega) a a c c W' (hT' W' h) (hT' W' h) heq).mono fun e w' ⟨A, E, he, _, hb⟩ => ⟨_, _, _, _, he, hb⟩
      · refine lval_02 C T a c w hs HR HT (fun W' h => ?_) hT
        rw [hxs, h1]
        exact (mul_no n n xs xs hn6 hn6 (by omega) (by omega) a a c c W' (hT' W' h) (hT' W' h) heq).mono fun e w' ⟨he, hb⟩ => ⟨_, _, _, _, he, hb⟩
    · have hv := Bool.eq_false_iff.2 hv
      exact lval_11 C T a c w hs (fun W' h => (rank_no C T a c W' (by omega) (fun l hl => by have := hr l hl; omega) (wf_lo hC) (hT.later h) hv).mono fun e w' he => ⟨_, he.1, he.2⟩)
        (fun W' h => (trans_bad C T a c W' (by omega) (fun l hl => by have := hr l hl; omega) (wf_lo hC) (hT.later h) hv).mono fun e w' he => ⟨_, _, _, _, he.1, he.2⟩)
        (fun W' h => (mul_bad C C T T a a c c W' (by omega) (fun l hl => by have := hr l hl; omega) (by omega) (fun l hl => by have := hr l hl; omega) (wf_lo hC) (wf_lo hC) (hT.later h) (hT.later h) (by rw [hv]; simp)).mono fun e w' he => ⟨_, _, _, _, he.1, he.2⟩) hT
  · exact lval_s C T a c w (Bool.eq_false_iff.2 hs) hT
end Go.Proofs.Ytlgiponfcmeiiaa
