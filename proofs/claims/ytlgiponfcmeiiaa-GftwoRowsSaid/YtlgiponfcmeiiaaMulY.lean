/- gftwo.Mul, the good way. -/
import Derived.Test.YtlgiponfcmeiiaaMulW
import Derived.Deep.RegionHeld3
namespace Go.Proofs.Ytlgiponfcmeiiaa
open Go Go.RowKit
section
variable {w : World} {ops : Array Oper} {o : Oper} {a : Act}
/-- An append of one row at a step of a region that draws its order. -/
theorem step_append_tab {K : Act → World → Prop} {Q : Exit → Act → World → Prop} {E : Prop} (hgd : o.guard = none) (s x : Operand) (ho : o.op = .call { callee := .builtin .append, args := #[s, x], argTypes := #[22, 22] })
    (B : Nat) (i : TypeInfo) (h2 : Try.prog.info? 36 = some i) (h3 : i.zero = some (.slice none 0 0)) (h4 : i.size = 1) (h5 : i.bytes = 24) (A : Option Addr) (n c : Nat) (vs : List Value) (hs : a.eval s = .slice A n c) (hn : vs.length = n) (hown : Own w B 36 A c vs) (ad : Addr) (m' : Nat) (u : Value) (hx : a.eval x = .slice (some ad) 1 m') (hu : w.cell? ad = some u) (hu1 : u.oneCell' = true)
    (hn1 : n ≤ 1000000) (hB : B ≤ w.heap.size) (h : ∀ A' c' w', Own w' B 36 A' c' (vs ++ [u]) → Turned w w' A → (∀ x, A' = some x → (w.heap.size ≤ x.block ∨ ∃ y, A = some y ∧ x = y)) → K (a.put o.dst (.slice A' (n + 1) c')) w') :
    if Region.wanted o (yielded ops a.tmps) = true then Oper.wp Try.prog o a w K Q else E := by
  have hw : Region.wanted o (yielded ops a.tmps) = true := by simp [Region.wanted, hgd]
  rw [if_pos hw]
  subst hn
  obtain ⟨a', c', w', hrun, r1, r2, r3⟩ := run_append_one (P := Try.prog) w B 22 o.type 36 i (.slice none 0 0) 24 Try.underlying22 h2 h3 h4 h5 rfl A c vs hown ad m' u hu hu1 (by omega) (by omega) hB
  unfold Oper.wp
  simp [execOp, ho, resolve, invoke, builtin, hs, hx, hrun, Result.andThen]
  exact h a' c' w' r1 r2 r3
end
set_option maxRecDepth 100000 in
set_option maxHeartbeats 4000000 in
theorem mul_yes (C D : Nat) (xs ys : List Nat) (hy : ∀ y ∈ ys, y < 2 ^ D) (hC : C ≤ 65536) (hD : D ≤ 65536) (hR : xs.length ≤ 65536) (hS : ys.length ≤ 65536) (a b : Option Addr) (c d : Nat) (w : World) (hT : TabAt w a (tabN C xs)) (hU : TabAt w b (tabN D ys)) (hne : C = ys.length) :
    Calls Try.prog 23 #[.agg #[.int .i64 (C : Int), .slice a xs.length c], .agg #[.int .i64 (D : Int), .slice b ys.length d]] w fun e w' => ∃ A E, e = .returned (.tuple #[.agg #[.int .i64 (D : Int), .slice A xs.length E], .int .i64 0]) ∧ TabAt w' A (tabN D (xs.map (mulN ys C))) ∧ Below w.heap.size w w' := by
  obtain ⟨W, hW⟩ : ∃ W, W = ((w.alloc (.cells #[.int .i64 (C : Int), .slice a xs.length c] 26)).alloc (.cells #[.int .i64 (D : Int), .slice b ys.length d] 26)).alloc (.cells #[.int .i64 0, .slice none 0 0] 26) := ⟨_, rfl⟩
  have h0 : HH w W [(w.heap.size, rowO 26 [.int .i64 (C : Int), .slice a xs.length c]), (w.heap.size + 1, rowO 26 [.int .i64 (D : Int), .slice b ys.length d]), (w.heap.size + 1 + 1, rowO 26 [.int .i64 0, .slice none 0 0])] [] := by rw [hW]; exact (((HH.start w).alloc #[.int .i64 (C : Int), .slice a xs.length c] 26 rfl rfl).alloc #[.int .i64 (D : Int), .slice b ys.length d] 26 (by simp) rfl).alloc #[.int .i64 0, .slice none 0 0] 26 (by simp) rfl
  have H0 := Lib.hid h0
  have HV : Hid (∀ W', Below w.heap.size w W' → Calls Try.prog 16 #[.agg #[.int .i64 (C : Int), .slice a xs.length c]] W' fun e w' => e = .returned (.bool true) ∧ Below W'.heap.size W' w') := Lib.hid fun W' h => valid_tab C xs hC hR a c W' (hT.later h)
  have HU : Hid (∀ W', Below w.heap.size w W' → Calls Try.prog 16 #[.agg #[.int .i64 (D : Int), .slice b ys.length d]] W' fun e w' => e = .returned (.bool true) ∧ Below W'.heap.size W' w') := Lib.hid fun W' h => valid_tab D ys hD hS b d W' (hU.later h)
  have d1 : ((C : Int) != (ys.length : Int)) = false := by rw [hne]; simp
  obtain ⟨j0, hj0, hy0, hy1, hy2⟩ := info_parts Try.info36
  have HT := Lib.hid hT
  have HS : Hid (∀ (x : Nat) (A : Option Addr) (E : Nat) (W' : World), (rowOf C x).length ≤ E → Below w.heap.size w W' → IntsAt W' A (rowOf C x) → Calls Try.prog 28 #[.slice b ys.length d, .slice A (rowOf C x).length E] W' fun e w' => ∃ A' E', e = .returned (.slice A' (rowOf D (mulN ys C x)).length E') ∧ Own w' W'.heap.size 3 A' E' (ints (rowOf D (mulN ys C x))) ∧ Below W'.heap.size W' w') := Lib.hid fun x A E W' hE hW hA => by
    have hl : (rowOf C x).length ≤ 65536 := Nat.le_trans (rowOf_len _ _) hC
    have h := total_any D ys hy hD (by omega) _ (rowOf C x) b A d E W' (Nat.le_refl _) (by omega) hE (fun j hj => by have := (rowOf_asc C x).2 j hj; omega) (hU.later hW) hA
    rw [sumI_row] at h
    exact h
  clear h0 hT hU hy hne
  go_enter Try.func23, Try.ntmps23
  have hc0_0 := H0.out.cell (k := 0) (i := 0) rfl rfl
  have hc0_1 := H0.out.cell (k := 0) (i := 1) rfl rfl
  have hc1_0 := H0.out.cell (k := 1) (i := 0) rfl rfl
  have hc1_1 := H0.out.cell (k := 1) (i := 1) rfl rfl
  have hc2_0 := H0.out.cell (k := 2) (i := 0) rfl rfl
  have hc2_1 := H0.out.cell (k := 2) (i := 1) rfl rfl
  have hf2_0 := H0.out.frozen (k := 2) rfl 0
  have hf2_1 := H0.out.frozen (k := 2) rfl 1
  rw [hW] at hc0_0 hc0_1 hc1_0 hc1_1 hc2_0 hc2_1 hf2_0 hf2_1
  go_wp2_with fail
  rw [← hW]
  clear hc0_0 hc0_1 hc1_0 hc1_1 hc2_0 hc2_1 hf2_0 hf2_1
  clear hW
  refine (HV.out W H0.out.below).mono ?_
  rintro e w1 ⟨rfl, hb⟩
  have H1 := Lib.hid (H0.out.call hb)
  clear hb H0 HV
  have hc0_0 := H1.out.cell (k := 0) (i := 0) rfl rfl
  have hc0_1 := H1.out.cell (k := 0) (i := 1) rfl rfl
  have hc1_0 := H1.out.cell (k := 1) (i := 0) rfl rfl
  have hc1_1 := H1.out.cell (k := 1) (i := 1) rfl rfl
  have hc2_0 := H1.out.cell (k := 2) (i := 0) rfl rfl
  have hc2_1 := H1.out.cell (k := 2) (i := 1) rfl rfl
  have hf2_0 := H1.out.frozen (k := 2) rfl 0
  have hf2_1 := H1.out.frozen (k := 2) rfl 1
  go_wp2_with fail
  clear hc0_0 hc0_1 hc1_0 hc1_1 hc2_0 hc2_1 hf2_0 hf2_1
  refine (HU.out w1 H1.out.below).mono ?_
  rintro e w2 ⟨rfl, hb⟩
  have H2 := Lib.hid (H1.out.call hb)
  clear hb H1 HU
  have hc0_0 := H2.out.cell (k := 0) (i := 0) rfl rfl
  have hc0_1 := H2.out.cell (k := 0) (i := 1) rfl rfl
  have hc1_0 := H2.out.cell (k := 1) (i := 0) rfl rfl
  have hc1_1 := H2.out.cell (k := 1) (i := 1) rfl rfl
  have hc2_0 := H2.out.cell (k := 2) (i := 0) rfl rfl
  have hc2_1 := H2.out.cell (k := 2) (i := 1) rfl rfl
  have hf2_0 := H2.out.frozen (k := 2) rfl 0
  have hf2_1 := H2.out.frozen (k := 2) rfl 1
  have H3 := Lib.hid ((H2.out.alloc #[.int .i64 (D : Int), .slice none 0 0] 26 rfl rfl).addNil 36)
  have hg0_1 := H3.out.cell (k := 0) (i := 1) rfl rfl
  go_wp2_with fail
  clear hc0_0 hc0_1 hc1_0 hc1_1 hc2_0 hc2_1 hf2_0 hf2_1
  clear hg0_1 H2 d1
  generalize w2.heap.size = q at *
  go_loopg [31] xs.length (fun g v wr => ∃ (i : Nat) (A : Option Addr) (E : Nat) (done : List SlO), i ≤ xs.length ∧ g = xs.length - i ∧ v = .int .i64 i ∧ done.length = i ∧ (∀ (m : Nat) (d : SlO), done[m]? = some d → d.E = 3 ∧ d.vs = ints (rowOf D (mulN ys C (xs.getD m 0)))) ∧ HH w wr [(w.heap.size, rowO 26 [.int .i64 (C : Int), .slice a xs.length c]), (w.heap.size + 1, rowO 26 [.int .i64 (D : Int), .slice b ys.length d]), (w.heap.size + 1 + 1, rowO 26 [.int .i64 0, .slice none 0 0]), (q, rowO 26 [.int .i64 (D : Int), .slice A i E])] (⟨A, E, 36, done.map slV⟩ :: done))
  case atStart => exact ⟨0, none, 0, [], Nat.zero_le _, rfl, rfl, rfl, fun m d h => (by simp at h), H3.out⟩
  case round =>
    obtain ⟨i, A, E, done, hi, rfl, rfl, hdl, hdr, hh⟩ := hrel
    have Hh := Lib.hid hh
    have Hdl := Lib.hid hdl
    have Hdr := Lib.hid hdr
    clear hh hdl hdr H3
    by_cases hil : i < xs.length
    · obtain ⟨b1, o1, a', c', rfl, hcr, hrow⟩ := HT.out.rowAt (tabN_get hil)
      have hc1 := (hrow wr Hh.out.below).1
      have HC := Lib.hid (HS.out (xs.getD i 0) a' c' wr.drew hcr Hh.out.drew.below (hrow wr.drew Hh.out.drew.below).2)
      have hl1 : (rowOf C (xs.getD i 0)).length ≤ 65536 := Nat.le_trans (rowOf_len _ _) hC
      have hl2 : (rowOf D (mulN ys C (xs.getD i 0))).length ≤ 65536 := Nat.le_trans (rowOf_len _ _) hD
      obtain ⟨row, hrw⟩ : ∃ row, row = rowOf D (mulN ys C (xs.getD i 0)) := ⟨_, rfl⟩
      have Hrw := Lib.hid hrw
      rw [← hrw] at HC hl2
      clear hrow hcr hrw
      generalize (rowOf C (xs.getD i 0)).length = L1 at *
      have hq1 := Hh.out.cell (k := 3) (i := 1) rfl rfl
      have hb1 := Hh.out.cell (k := 1) (i := 1) rfl rfl
      have Hd := Lib.hid Hh.out.drew
      go_upto_region 9 with fail
      have Hr := Lib.hid ((Below.refl wr.heap.size wr).drew)
      have Hn0 : Hid ((done.map slV).length = i) := Lib.hid (by rw [List.length_map]; exact Hdl.out)
      clear hc1
      go_region_law (first
          | (go_simp; (with_reducible refine HC.out.mono ?_); rintro e w3 ⟨A2, E2, rfl, ho2, hb2⟩; have H3 := Lib.hid (Hd.out.addSl hb2 ho2); have hq2 := H3.out.cell (k := 3) (i := 1) rfl rfl; have Ha0 := Lib.hid (H3.out.call ((Below.refl _ _).alloc (Nat.le_refl _) (.cells #[.slice A2 row.length E2] 36))); have hq3 := Ha0.out.cell (k := 3) (i := 1) rfl rfl; have Hc0 : Hid ((w3.alloc (.cells #[.slice A2 row.length E2] 36)).cell? ⟨w3.heap.size, 0, none⟩ = some (.slice A2 row.length E2)) := Lib.hid ((Row.new w3 #[.slice A2 row.length E2] 36).cell 0); have Hl1 : Hid (w.heap.size ≤ (w3.alloc (.cells #[.slice A2 row.length E2] 36)).heap.size) := Lib.hid Ha0.out.below.size; clear ho2 hb2)
          | ((refine step_append_tab rfl (.tmp 36) (.tmp 41) rfl w.heap.size j0 hj0 hy0 hy1 hy2 A i E (done.map slV) rfl Hn0.out (Ha0.out.sl (k := 0) rfl) ⟨w3.heap.size, 0, none⟩ 1 (.slice A2 row.length E2) rfl Hc0.out rfl (by omega) Hl1.out ?_); intro A3 e3 w4 hO2 hT2 hA2; have H4 := Ha0.out.grow (k := 0) rfl hO2 hT2 hA2; have hd := H4.cell (k := 3) (i := 1) rfl rfl; have hf := H4.frozen (k := 3) rfl 1; have H5 := Lib.hid (H4.set (k := 3) rfl 1 (.slice A3 (i + 1) e3)); clear H4 hO2 hT2 hA2))
      all_goals
        clear hd hf
        go_wp2_with fail
        go_roundg (xs.length - (i + 1))
        case measure => omega
        case rel =>
          refine ⟨i + 1, A3, e3, done ++ [⟨A2, E2, 3, ints row⟩], by omega, rfl, by go_num, by rw [List.length_append, Hdl.out]; rfl, snoc_all Hdr.out ⟨rfl, by rw [Hdl.out, Hrw.out]⟩, ?_⟩
          have h := H5.out
          have e2' : List.map slV [(⟨A2, E2, 3, ints row⟩ : SlO)] = [.slice A2 row.length E2] := by
            show [slV _] = _
            unfold slV
            rw [ints_length]
          rw [List.map_append, e2']
          exact h
    · obtain rfl : i = xs.length := by omega
      have hq0 := Hh.out.cell (k := 3) (i := 0) rfl rfl
      have hq1 := Hh.out.cell (k := 3) (i := 1) rfl rfl
      have hc2_0 := Hh.out.cell (k := 2) (i := 0) rfl rfl
      have hc2_1 := Hh.out.cell (k := 2) (i := 1) rfl rfl
      have hf2_0 := Hh.out.frozen (k := 2) rfl 0
      have hf2_1 := Hh.out.frozen (k := 2) rfl 1
      have H9 := (Hh.out.set (k := 2) rfl 0 (.int .i64 (D : Int))).set (k := 2) rfl 1 (.slice A xs.length E)
      have hF0 := H9.cell (k := 2) (i := 0) rfl rfl
      have hF1 := H9.cell (k := 2) (i := 1) rfl rfl
      have Hfin := Lib.hid H9
      clear H9
      go_wp2_with fail
      refine bodyPost_ret (v := .tuple #[.agg #[.int .i64 (D : Int), .slice A xs.length E], .int .i64 0]) (by simp [results, Try.results23, go_sem, hF0, hF1]) rfl ?_
      refine ⟨A, E, rfl, ?_, Hfin.out.below⟩
      refine (rowsAt_of (Hfin.out.forget (List.sublist_cons_self _ _)) (by rw [tabN_len, List.length_map]; exact Hdl.out) (fun m d h => ?_)).tab (Hfin.out.sl (k := 0) rfl).at
      have hm : m < xs.length := by rw [← Hdl.out]; exact (List.getElem?_eq_some_iff.1 h).1
      rw [tabN_getD (by rw [List.length_map]; exact hm)]
      have e : (xs.map (mulN ys C)).getD m 0 = mulN ys C (xs.getD m 0) := by simp [hm]
      rw [e]
      exact Hdr.out m d h
end Go.Proofs.Ytlgiponfcmeiiaa
