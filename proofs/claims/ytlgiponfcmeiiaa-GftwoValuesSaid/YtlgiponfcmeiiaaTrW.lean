/- The walk of gftwo.Transpose. -/
import Derived.Test.YtlgiponfcmeiiaaTrQ
namespace Go.Proofs.Ytlgiponfcmeiiaa
open Go Go.RowKit
set_option maxRecDepth 100000 in
set_option maxHeartbeats 4000000 in
theorem trans_bad (C : Int) (T : List (List Int)) (a : Option Addr) (c : Nat) (w : World) (hTl : T.length ≤ 1000000) (hRl : ∀ l ∈ T, l.length ≤ 1000000) (hC : -9223372036854775808 ≤ C ∧ C ≤ 9223372036854775807) (hT : TabAt w a T) (hv : vldM C T = false) :
    Calls Try.prog 25 #[.agg #[.int .i64 C, .slice a T.length c]] w fun e w' => e = .returned (.tuple #[.agg #[.int .i64 0, .slice none 0 0], .int .i64 1]) ∧ Below w.heap.size w w' := by
  obtain ⟨W, hW⟩ : ∃ W, W = (w.alloc (.cells #[.int .i64 C, .slice a T.length c] 26)).alloc (.cells #[.int .i64 0, .slice none 0 0] 26) := ⟨_, rfl⟩
  have h0 : HH w W [(w.heap.size, rowO 26 [.int .i64 C, .slice a T.length c]), (w.heap.size + 1, rowO 26 [.int .i64 0, .slice none 0 0])] [] := by rw [hW]; exact ((HH.start w).alloc #[.int .i64 C, .slice a T.length c] 26 rfl rfl).alloc #[.int .i64 0, .slice none 0 0] 26 (by simp) rfl
  have H0 := Lib.hid h0
  have HV : Hid (∀ W', Below w.heap.size w W' → Calls Try.prog 16 #[.agg #[.int .i64 C, .slice a T.length c]] W' fun e w' => e = .returned (.bool (vldM C T)) ∧ Below W'.heap.size W' w') := Lib.hid fun W' h => valid_any C T a c W' hTl hRl hC (hT.later h)
  rw [hv] at HV
  clear h0 hT hRl hTl hv
  go_enter Try.func25, Try.ntmps25
  have hc0_0 := H0.out.cell (k := 0) (i := 0) rfl rfl
  have hc0_1 := H0.out.cell (k := 0) (i := 1) rfl rfl
  have hc1_0 := H0.out.cell (k := 1) (i := 0) rfl rfl
  have hc1_1 := H0.out.cell (k := 1) (i := 1) rfl rfl
  have hf1_0 := H0.out.frozen (k := 1) rfl 0
  have hf1_1 := H0.out.frozen (k := 1) rfl 1
  rw [hW] at hc0_0 hc0_1 hc1_0 hc1_1 hf1_0 hf1_1
  go_wp2_with fail
  rw [← hW]
  clear hc0_0 hc0_1 hc1_0 hc1_1 hf1_0 hf1_1
  clear hW
  refine (HV.out W H0.out.below).mono ?_
  rintro e w1 ⟨rfl, hb⟩
  have H1 := Lib.hid (H0.out.call hb)
  clear hb H0 HV
  have hc0_0 := H1.out.cell (k := 0) (i := 0) rfl rfl
  have hc0_1 := H1.out.cell (k := 0) (i := 1) rfl rfl
  have hc1_0 := H1.out.cell (k := 1) (i := 0) rfl rfl
  have hc1_1 := H1.out.cell (k := 1) (i := 1) rfl rfl
  have hf1_0 := H1.out.frozen (k := 1) rfl 0
  have hf1_1 := H1.out.frozen (k := 1) rfl 1
  have H9 := (H1.out.set (k := 1) rfl 0 (.int .i64 0)).set (k := 1) rfl 1 (.slice none 0 0)
  have hF0 := H9.cell (k := 1) (i := 0) rfl rfl
  have hF1 := H9.cell (k := 1) (i := 1) rfl rfl
  have Hfin := Lib.hid H9.below
  clear H9
  go_wp2_with fail
  refine bodyPost_ret (v := .tuple #[.agg #[.int .i64 0, .slice none 0 0], .int .i64 1]) (by simp [results, Try.results25, go_sem, hF0, hF1]) rfl ?_
  exact ⟨rfl, Hfin.out⟩
theorem slV_rows {w0 w : World} {l : Kn} {done : List SlO} {xs : List Nat} {C : Nat} (h : HH w0 w l done) (hl : done.length = C) (hd : ∀ (m : Nat) (d : SlO), done[m]? = some d → d.E = 3 ∧ d.vs = ints (colP xs xs.length m)) : RowsAt w (done.map slV) (tabN xs.length (trN C xs)) :=
  rowsAt_of h (by rw [tabN_len, trN_len]; exact hl) fun m d hm => by
    have hlt : m < C := by rw [← hl]; exact (List.getElem?_eq_some_iff.1 hm).1
    rw [tabN_getD (by rw [trN_len]; exact hlt), trN_getD xs hlt, ← colP_all]
    exact hd m d hm
set_option maxRecDepth 100000 in
set_option maxHeartbeats 4000000 in
theorem trans_yes (C : Nat) (xs : List Nat) (hC : C ≤ 65536) (hR : xs.length ≤ 65536) (a : Option Addr) (c : Nat) (w : World) (hT : TabAt w a (tabN C xs)) :
    Calls Try.prog 25 #[.agg #[.int .i64 (C : Int), .slice a xs.length c]] w fun e w' => ∃ A E, e = .returned (.tuple #[.agg #[.int .i64 (xs.length : Int), .slice A C E], .int .i64 0]) ∧ TabAt w' A (tabN xs.length (trN C xs)) ∧ Below w.heap.size w w' := by
  obtain ⟨W, hW⟩ : ∃ W, W = (w.alloc (.cells #[.int .i64 (C : Int), .slice a xs.length c] 26)).alloc (.cells #[.int .i64 0, .slice none 0 0] 26) := ⟨_, rfl⟩
  have h0 : HH w W [(w.heap.size, rowO 26 [.int .i64 (C : Int), .slice a xs.length c]), (w.heap.size + 1, rowO 26 [.int .i64 0, .slice none 0 0])] [] := by rw [hW]; exact ((HH.start w).alloc #[.int .i64 (C : Int), .slice a xs.length c] 26 rfl rfl).alloc #[.int .i64 0, .slice none 0 0] 26 (by simp) rfl
  have H0 := Lib.hid h0
  have HV : Hid (∀ W', Below w.heap.size w W' → Calls Try.prog 16 #[.agg #[.int .i64 (C : Int), .slice a xs.length c]] W' fun e w' => e = .returned (.bool true) ∧ Below W'.heap.size W' w') := Lib.hid fun W' h => valid_tab C xs hC hR a c W' (hT.later h)
  have HT := Lib.hid hT
  have hmk := run_mk1 (T := 22) (z := .slice none 0 0) (bytes := 24) Try.underlying22 Try.info36 rfl C C (Nat.le_refl _) (by decide) (by omega)
  obtain ⟨i0, hi, hz0, hz1, hz2⟩ := info_parts Try.info3
  clear h0 hT
  go_enter Try.func25, Try.ntmps25
  have hc0_0 := H0.out.cell (k := 0) (i := 0) rfl rfl
  have hc0_1 := H0.out.cell (k := 0) (i := 1) rfl rfl
  have hc1_0 := H0.out.cell (k := 1) (i := 0) rfl rfl
  have hc1_1 := H0.out.cell (k := 1) (i := 1) rfl rfl
  have hf1_0 := H0.out.frozen (k := 1) rfl 0
  have hf1_1 := H0.out.frozen (k := 1) rfl 1
  rw [hW] at hc0_0 hc0_1 hc1_0 hc1_1 hf1_0 hf1_1
  go_wp2_with fail
  rw [← hW]
  clear hc0_0 hc0_1 hc1_0 hc1_1 hf1_0 hf1_1
  clear hW
  refine (HV.out W H0.out.below).mono ?_
  rintro e w1 ⟨rfl, hb⟩
  have H1 := Lib.hid (H0.out.call hb)
  clear hb H0 HV
  have hc0_0 := H1.out.cell (k := 0) (i := 0) rfl rfl
  have hc0_1 := H1.out.cell (k := 0) (i := 1) rfl rfl
  have H2 := Lib.hid ((H1.out.alloc (Array.replicate C (.slice none 0 0)) 36 rfl (vs := (List.replicate C (⟨none, 0, 3, []⟩ : SlO)).map slV) (by rw [Array.toList_replicate, List.map_replicate]; rfl)).nils 3 C)
  have hg0_1 := H2.out.cell (k := 0) (i := 1) rfl rfl
  go_wp2_with fail
  clear hc0_0 hc0_1 hg0_1 H1 hmk
  generalize w1.heap.size = t at *
  rw [List.nil_append] at H2
  go_loopg [19] xs.length (fun g v wr => ∃ (i : Nat) (done : List SlO), i ≤ xs.length ∧ g = xs.length - i ∧ v = .int .i64 i ∧ done.length = C ∧ (∀ (m : Nat) (d : SlO), done[m]? = some d → d.E = 3 ∧ d.vs = ints (colP xs i m)) ∧ HH w wr [(w.heap.size, rowO 26 [.int .i64 (C : Int), .slice a xs.length c]), (w.heap.size + 1, rowO 26 [.int .i64 0, .slice none 0 0]), (t, rowO 36 (done.map slV))] done)
  case atStart => exact ⟨0, _, Nat.zero_le _, rfl, rfl, List.length_replicate, (fun m d h => by
    rw [List.getElem?_replicate] at h
    split at h
    · cases h; exact ⟨rfl, rfl⟩
    · cases h), H2.out⟩
  case round =>
    obtain ⟨i, done, hi0, rfl, rfl, hdl, hdr, hh⟩ := hrel
    have Hh := Lib.hid hh
    have Hdl := Lib.hid hdl
    have Hdr := Lib.hid hdr
    clear hh hdl hdr H2
    by_cases hil : i < xs.length
    · obtain ⟨b1, o1, a', c', rfl, hcr, hrow⟩ := HT.out.rowAt (tabN_get hil)
      have hc1 := (hrow wr Hh.out.below).1
      have HI : Hid (∀ W', Below w.heap.size w W' → IntsAt W' a' (rowOf C (xs.getD i 0))) := Lib.hid fun W' h => (hrow W' h).2
      have hl1 : (rowOf C (xs.getD i 0)).length ≤ 65536 := Nat.le_trans (rowOf_len _ _) hC
      have Has : Hid (Asc C (rowOf C (xs.getD i 0))) := Lib.hid (rowOf_asc _ _)
      have Hfl : Hid (∀ m, m < C → mixC xs i (rowOf C (xs.getD i 0)) (rowOf C (xs.getD i 0)).length m = colP xs (i + 1) m) := Lib.hid fun m hm => mixC_full xs i hm
      clear hrow hcr
      generalize rowOf C (xs.getD i 0) = row at *
      go_wp2_with fail
      go_loopg [26] row.length (fun g v wr => ∃ (j : Nat) (done : List SlO), j ≤ row.length ∧ g = row.length - j ∧ v = .int .i64 j ∧ done.length = C ∧ (∀ (m : Nat) (d : SlO), done[m]? = some d → d.E = 3 ∧ d.vs = ints (mixC xs i row j m)) ∧ HH w wr [(w.heap.size, rowO 26 [.int .i64 (C : Int), .slice (some ⟨b1, o1, none⟩) xs.length c]), (w.heap.size + 1, rowO 26 [.int .i64 0, .slice none 0 0]), (t, rowO 36 (done.map slV))] done)
      case atStart => exact ⟨0, done, Nat.zero_le _, rfl, rfl, Hdl.out, fun m d h => by rw [mixC_zero]; exact Hdr.out m d h, Hh.out⟩
      case round =>
        obtain ⟨j, dn, hj, rfl, rfl, hdl, hdr, hh⟩ := hrel
        have Hr := Lib.hid hh
        have Hnl := Lib.hid hdl
        have Hnr := Lib.hid hdr
        clear hh hdl hdr Hh
        by_cases hjl : j < row.length
        · obtain ⟨b2, o2, rfl, _, hcR⟩ := (HI.out wr Hr.out.below).open (by omega)
          have hcx := hcR j hjl
          obtain ⟨hx0, hx1⟩ := Has.out.2 _ (nth_mem row j hjl)
          obtain ⟨cc, hcc⟩ : ∃ cc : Nat, nth row j = (cc : Int) := ⟨(nth row j).toNat, by omega⟩
          obtain ⟨hm1, hm2⟩ := mixC_here xs i Has.out hjl hcc
          have Hth : Hid (∀ k, k ≠ cc → mixC xs i row (j + 1) k = mixC xs i row j k) := Lib.hid fun k hk => mixC_there xs i row hjl hcc hk
          rw [hcc] at hcx hx1
          have hcC : cc < C := by omega
          obtain ⟨⟨A, E, ty, vs⟩, hdc⟩ : ∃ d, dn[cc]? = some d := ⟨_, List.getElem?_eq_getElem (by rw [Hnl.out]; exact hcC)⟩
          obtain ⟨ht30, hvs0⟩ := Hnr.out cc _ hdc
          have ht3 : ty = 3 := ht30
          have hvs : vs = ints (mixC xs i row j cc) := hvs0
          clear ht30 hvs0
          subst ht3
          rw [hm1] at hvs
          have hn1 : vs.length ≤ 65536 := by
            rw [hvs, ints_length]
            have := colP_len xs i cc
            omega
          have Hvs2 : Hid (vs ++ [.int .i64 (i : Int)] = ints (mixC xs i row (j + 1) cc)) := Lib.hid (by rw [hm2, hvs, ints_snoc])
          have hcl0 : (dn.map slV)[cc]? = some (.slice A vs.length E) := by rw [List.getElem?_map, hdc]; rfl
          have Hcl0 := Lib.hid hcl0
          have hk0 : nthO dn cc = some ⟨A, E, 3, vs⟩ := (nthO_get dn cc).trans hdc
          have Hk0 := Lib.hid hk0
          have hX0 := Hr.out.cell (k := 2) (i := cc) rfl hcl0
          have Ha := Lib.hid (Hr.out.call ((Below.refl _ _).alloc (Nat.le_refl _) (.cells #[.int .i64 (i : Int)] 3)))
          have Hc1 : Hid ((wr.alloc (.cells #[.int .i64 (i : Int)] 3)).cell? ⟨wr.heap.size, 0, none⟩ = some (.int .i64 (i : Int))) := Lib.hid ((Row.new wr #[.int .i64 (i : Int)] 3).cell 0)
          have Hl1 : Hid (w.heap.size ≤ (wr.alloc (.cells #[.int .i64 (i : Int)] 3)).heap.size) := Lib.hid Ha.out.below.size
          clear hcR hcc hx0 hx1 hm1 hm2 hvs hcl0 hk0 hdc
          obtain ⟨n, hn⟩ : ∃ n, n = vs.length := ⟨_, rfl⟩
          have Hn := Lib.hid hn.symm
          rw [← hn] at hn1 hX0 Hcl0
          clear hn
          go_wp2_with (with_reducible refine wpList_append_one rfl (.tmp 35) (.tmp 37) 36 rfl w.heap.size 3 i0 (.int .i64 0) 8 Try.underlying36 hi hz0 hz1 hz2 rfl A n E vs rfl Hn.out (Ha.out.sl Hk0.out) _ 1 (.int .i64 (i : Int)) rfl Hc1.out rfl (by omega) (by omega) Hl1.out ?_; intro A2 e2 w2 hO2 hT2 hA2; have H2 := Ha.out.grow Hk0.out hO2 hT2 hA2; have hd := H2.cell (k := 2) (i := cc) rfl Hcl0.out; have hf := H2.frozen (k := 2) rfl cc; have H3 := Lib.hid (H2.set (k := 2) rfl cc (.slice A2 (n + 1) e2)); clear H2 hO2 hT2 hA2 hX0)
          all_goals
            have H4 : Hid (HH w (w2.setCell ⟨t, cc, none⟩ (.slice A2 (n + 1) e2)) [(w.heap.size, rowO 26 [.int .i64 (C : Int), .slice (some ⟨b1, o1, none⟩) xs.length c]), (w.heap.size + 1, rowO 26 [.int .i64 0, .slice none 0 0]), (t, rowO 36 ((dn.set cc ⟨A2, e2, 3, ints (mixC xs i row (j + 1) cc)⟩).map slV))] (dn.set cc ⟨A2, e2, 3, ints (mixC xs i row (j + 1) cc)⟩)) := Lib.hid (by
              have h := H3.out
              rw [setO_set dn cc, Hvs2.out] at h
              have e : Value.slice A2 (n + 1) e2 = slV ⟨A2, e2, 3, ints (mixC xs i row (j + 1) cc)⟩ := by
                unfold slV
                rw [← Hvs2.out, List.length_append, Hn.out]
                rfl
              rw [List.map_set, ← e]
              exact h)
            clear H3 hd hf
            go_roundg (row.length - (j + 1))
            case measure => omega
            case rel => exact ⟨j + 1, _, by omega, rfl, by go_num, by rw [List.length_set]; exact Hnl.out, fun m d h => by
              rw [List.getElem?_set] at h
              by_cases e : cc = m
              · subst e
                rw [if_pos rfl] at h
                split at h
                · cases h; exact ⟨rfl, rfl⟩
                · cases h
              · rw [if_neg e] at h
                rw [Hth.out m (fun g => e g.symm)]
                exact Hnr.out m d h, H4.out⟩
        · obtain rfl : j = row.length := by omega
          go_wp2_with fail
          go_roundg (xs.length - (i + 1))
          case measure => omega
          case rel => exact ⟨i + 1, dn, by omega, rfl, by go_num, Hnl.out, fun m d h => by
            have hm : m < C := by rw [← Hnl.out]; exact (List.getElem?_eq_some_iff.1 h).1
            rw [← Hfl.out m hm]
            exact Hnr.out m d h, Hr.out⟩
    · obtain rfl : i = xs.length := by omega
      have hc0_0 := Hh.out.cell (k := 0) (i := 0) rfl rfl
      have hc0_1 := Hh.out.cell (k := 0) (i := 1) rfl rfl
      have hc1_0 := Hh.out.cell (k := 1) (i := 0) rfl rfl
      have hc1_1 := Hh.out.cell (k := 1) (i := 1) rfl rfl
      have hf1_0 := Hh.out.frozen (k := 1) rfl 0
      have hf1_1 := Hh.out.frozen (k := 1) rfl 1
      have H9 := (Hh.out.set (k := 1) rfl 0 (.int .i64 (xs.length : Int))).set (k := 1) rfl 1 (.slice (some ⟨t, 0, none⟩) C C)
      have hF0 := H9.cell (k := 1) (i := 0) rfl rfl
      have hF1 := H9.cell (k := 1) (i := 1) rfl rfl
      have Hfin := Lib.hid H9
      clear H9
      go_wp2_with fail
      refine bodyPost_ret (v := .tuple #[.agg #[.int .i64 (xs.length : Int), .slice (some ⟨t, 0, none⟩) C C], .int .i64 0]) (by simp [results, Try.results25, go_sem, hF0, hF1]) rfl ?_
      exact ⟨some ⟨t, 0, none⟩, C, rfl, (slV_rows Hfin.out Hdl.out Hdr.out).tab (Hfin.out.row (k := 2) rfl).at, Hfin.out.below⟩
end Go.Proofs.Ytlgiponfcmeiiaa
