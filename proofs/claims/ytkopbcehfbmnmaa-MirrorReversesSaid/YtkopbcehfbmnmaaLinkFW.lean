/- The walks of linking.Writhe, Self, Total, Number and of diagram.Components. -/
import Derived.Test.YtkopbcehfbmnmaaSumW
namespace Go.Proofs.Ytkopbcehfbmnmaa
open Go Go.RowKit
set_option maxRecDepth 100000 in
set_option maxHeartbeats 2000000 in
theorem writhe1_any (w : World) : KeepFn w 103 #[] (fun _ _ => true) := by
  intro W u o _
  show Calls Try.prog 103 #[.int .i64 u, .int .i64 o] W _
  go_enter Try.func103, Try.ntmps103
  go_wp2_with fail
  go_ret
  exact ⟨rfl, Below.refl _ _⟩
set_option maxRecDepth 100000 in
set_option maxHeartbeats 2000000 in
theorem total1_any (w : World) : KeepFn w 105 #[] (fun u o => u != o) := by
  intro W u o _
  show Calls Try.prog 105 #[.int .i64 u, .int .i64 o] W _
  go_enter Try.func105, Try.ntmps105
  go_wp2_with fail
  go_ret
  exact ⟨rfl, Below.refl _ _⟩
set_option maxRecDepth 100000 in
set_option maxHeartbeats 2000000 in
theorem self1_any (w : World) (b : Nat) (k : Int) (hr : Row w b 3 [.int .i64 k]) : KeepFn w 104 #[.pointer (some ⟨b, 0, none⟩)] (fun u o => u == k && o == k) := by
  intro W u o hW
  have hc := (hr.later hW hr.lt).cell 0
  simp only [List.getElem?_cons_zero] at hc
  show Calls Try.prog 104 #[.int .i64 u, .int .i64 o, .pointer (some ⟨b, 0, none⟩)] W _
  clear hr hW
  have H : ∀ (a b' : Bool), (u == k) = a → (o == k) = b' → Calls Try.prog 104 #[.int .i64 u, .int .i64 o, .pointer (some ⟨b, 0, none⟩)] W fun e w' => e = .returned (.bool (a && b')) ∧ Below W.heap.size W w' := by
    intro a b' ha hb
    cases a <;> cases b' <;>
    ( go_enter Try.func104, Try.ntmps104
      go_wp2_with fail
      go_ret
      exact ⟨rfl, Below.refl _ _⟩)
  exact H _ _ rfl rfl
/-- Is a crossing of u and o one of i and k? -/
def isPair (i k u o : Int) : Bool := (u == i && o == k) || (u == k && o == i)
set_option maxRecDepth 100000 in
set_option maxHeartbeats 2000000 in
theorem number1_any (w : World) (bi bk : Nat) (i k : Int) (hi : Row w bi 3 [.int .i64 i]) (hk : Row w bk 3 [.int .i64 k]) : KeepFn w 97 #[.pointer (some ⟨bi, 0, none⟩), .pointer (some ⟨bk, 0, none⟩)] (isPair i k) := by
  intro W u o hW
  have hc := (hi.later hW hi.lt).cell 0
  have hc2 := (hk.later hW hk.lt).cell 0
  simp only [List.getElem?_cons_zero] at hc hc2
  show Calls Try.prog 97 #[.int .i64 u, .int .i64 o, .pointer (some ⟨bi, 0, none⟩), .pointer (some ⟨bk, 0, none⟩)] W _
  clear hi hk hW
  have H : ∀ (a b c d : Bool), (u == i) = a → (o == k) = b → (u == k) = c → (o == i) = d → Calls Try.prog 97 #[.int .i64 u, .int .i64 o, .pointer (some ⟨bi, 0, none⟩), .pointer (some ⟨bk, 0, none⟩)] W fun e w' => e = .returned (.bool ((a && b) || (c && d))) ∧ Below W.heap.size W w' := by
    intro a b c d ha hb hcc hd
    cases a <;> cases b <;> cases c <;> cases d <;>
    ( go_enter Try.func97, Try.ntmps97
      go_wp2_with fail
      go_ret
      exact ⟨rfl, Below.refl _ _⟩)
  exact H _ _ _ _ rfl rfl rfl rfl
set_option maxRecDepth 100000 in
set_option maxHeartbeats 2000000 in
theorem writhe_any (S M : List Int) (L : Int) (aS aM : Option Addr) (cS cM : Nat) (w : World) (hSl : S.length ≤ 1000000000) (hMl : M.length ≤ 1000000000) (hS : IntsAt w aS S) (hM : IntsAt w aM M) :
    Calls Try.prog 33 #[.agg #[.slice aS S.length cS, .slice aM M.length cM, .int .i64 L]] w fun e w' => e = .returned (.int .i64 (if vldB S M L = true then sumTo S (ownF (strandsL S M L)) (fun _ _ => true) S.length else 0)) ∧ Below w.heap.size w w' := by
  have hB : Below w.heap.size w (w.alloc (.cells #[.slice aS S.length cS, .slice aM M.length cM, .int .i64 L] 24)) := (Below.refl _ _).alloc (Nat.le_refl _) _
  have HV := Lib.hid (valid_any S M L aS aM cS cM (w.alloc (.cells #[.slice aS S.length cS, .slice aM M.length cM, .int .i64 L] 24)) hSl hMl (hS.later hB) (hM.later hB))
  have Hbox := Lib.hid (Row.new w #[.slice aS S.length cS, .slice aM M.length cM, .int .i64 L] 24)
  have HS := Lib.hid hS
  have HM := Lib.hid hM
  have HB := Lib.hid hB
  clear hB hS hM
  by_cases hv : vldB S M L = true
  · rw [if_pos hv]
    rw [hv] at HV
    have Hv := Lib.hid hv
    clear hv
    go_enter Try.func33, Try.ntmps33
    go_wp2_with fail
    refine HV.out.mono ?_
    rintro e w1 ⟨rfl, hb1⟩
    have Hb1 := Lib.hid (below_of HB.out hb1 (by simp))
    have hbx := Hbox.out.later hb1 (by simp)
    have hc0 := hbx.cell 0
    have hc1 := hbx.cell 1
    have hc2 := hbx.cell 2
    simp only [List.getElem?_cons_succ, List.getElem?_cons_zero] at hc0 hc1 hc2
    clear hb1 hbx
    go_wp2_with fail
    refine (sum_any S M L aS aM cS cM w1 103 #[] (fun _ _ => true) Try.call103 (writhe1_any w1) Hv.out (HS.out.later Hb1.out) (HM.out.later Hb1.out)).mono ?_
    rintro e w2 ⟨rfl, hb2⟩
    have Hb2 := Lib.hid (below_step Hb1.out hb2)
    clear hb2
    go_wp2_with fail
    go_ret
    exact ⟨rfl, Hb2.out⟩
  · rw [if_neg hv]
    have hv2 : vldB S M L = false := by simpa using hv
    rw [hv2] at HV
    clear hv hv2
    go_enter Try.func33, Try.ntmps33
    go_wp2_with fail
    refine HV.out.mono ?_
    rintro e w1 ⟨rfl, hb1⟩
    have Hb1 := Lib.hid (below_of HB.out hb1 (by simp))
    clear hb1
    go_wp2_with fail
    go_ret
    exact ⟨rfl, Hb1.out⟩
set_option maxRecDepth 100000 in
set_option maxHeartbeats 2000000 in
theorem total_any (S M : List Int) (L : Int) (aS aM : Option Addr) (cS cM : Nat) (w : World) (hSl : S.length ≤ 1000000000) (hMl : M.length ≤ 1000000000) (hS : IntsAt w aS S) (hM : IntsAt w aM M) :
    Calls Try.prog 35 #[.agg #[.slice aS S.length cS, .slice aM M.length cM, .int .i64 L]] w fun e w' => e = .returned (.int .i64 (if vldB S M L = true then (sumTo S (ownF (strandsL S M L)) (fun u o => u != o) S.length).tdiv 2 else 0)) ∧ Below w.heap.size w w' := by
  have hB : Below w.heap.size w (w.alloc (.cells #[.slice aS S.length cS, .slice aM M.length cM, .int .i64 L] 24)) := (Below.refl _ _).alloc (Nat.le_refl _) _
  have HV := Lib.hid (valid_any S M L aS aM cS cM (w.alloc (.cells #[.slice aS S.length cS, .slice aM M.length cM, .int .i64 L] 24)) hSl hMl (hS.later hB) (hM.later hB))
  have Hbox := Lib.hid (Row.new w #[.slice aS S.length cS, .slice aM M.length cM, .int .i64 L] 24)
  have HS := Lib.hid hS
  have HM := Lib.hid hM
  have HB := Lib.hid hB
  clear hB hS hM
  by_cases hv : vldB S M L = true
  · rw [if_pos hv]
    rw [hv] at HV
    have hbd := sumTo_bd S (ownF (strandsL S M L)) (fun u o => u != o) (fun c => by
      rcases Nat.lt_or_ge c S.length with h | h
      · rcases (vldB_shape hv).sign c h with h | h <;> omega
      · rw [nth_out _ _ h]; omega) S.length
    have hfew := (vldB_shape hv).few
    have Hv := Lib.hid hv
    clear hv
    go_enter Try.func35, Try.ntmps35
    go_wp2_with fail
    refine HV.out.mono ?_
    rintro e w1 ⟨rfl, hb1⟩
    have Hb1 := Lib.hid (below_of HB.out hb1 (by simp))
    have hbx := Hbox.out.later hb1 (by simp)
    have hc0 := hbx.cell 0
    have hc1 := hbx.cell 1
    have hc2 := hbx.cell 2
    simp only [List.getElem?_cons_succ, List.getElem?_cons_zero] at hc0 hc1 hc2
    clear hb1 hbx
    go_wp2_with fail
    refine (sum_any S M L aS aM cS cM w1 105 #[] (fun u o => u != o) Try.call105 (total1_any w1) Hv.out (HS.out.later Hb1.out) (HM.out.later Hb1.out)).mono ?_
    rintro e w2 ⟨rfl, hb2⟩
    have Hb2 := Lib.hid (below_step Hb1.out hb2)
    clear hb2
    generalize ht : sumTo S (ownF (strandsL S M L)) (fun u o => u != o) S.length = t at *
    have Ht := Lib.hid ht
    clear ht
    go_wp2_with fail
    go_ret
    exact ⟨ret_int (by rw [Ht.out]), Hb2.out⟩
  · rw [if_neg hv]
    have hv2 : vldB S M L = false := by simpa using hv
    rw [hv2] at HV
    clear hv hv2
    go_enter Try.func35, Try.ntmps35
    go_wp2_with fail
    refine HV.out.mono ?_
    rintro e w1 ⟨rfl, hb1⟩
    have Hb1 := Lib.hid (below_of HB.out hb1 (by simp))
    clear hb1
    go_wp2_with fail
    go_ret
    exact ⟨rfl, Hb1.out⟩
set_option maxRecDepth 100000 in
set_option maxHeartbeats 2000000 in
theorem self_any (S M : List Int) (L : Int) (aS aM : Option Addr) (cS cM : Nat) (i : Int) (w : World) (hSl : S.length ≤ 1000000000) (hMl : M.length ≤ 1000000000) (hS : IntsAt w aS S) (hM : IntsAt w aM M) :
    Calls Try.prog 34 #[.agg #[.slice aS S.length cS, .slice aM M.length cM, .int .i64 L], .int .i64 i] w fun e w' => e = .returned (.int .i64 (if vldB S M L = true ∧ 0 ≤ i then sumTo S (ownF (strandsL S M L)) (fun u o => u == i && o == i) S.length else 0)) ∧ Below w.heap.size w w' := by
  have hB : Below w.heap.size w ((w.alloc (.cells #[.slice aS S.length cS, .slice aM M.length cM, .int .i64 L] 24)).alloc (.cells #[.int .i64 i] 3)) := ((Below.refl _ _).alloc (Nat.le_refl _) _).alloc (by simp) _
  have HV := Lib.hid (valid_any S M L aS aM cS cM ((w.alloc (.cells #[.slice aS S.length cS, .slice aM M.length cM, .int .i64 L] 24)).alloc (.cells #[.int .i64 i] 3)) hSl hMl (hS.later hB) (hM.later hB))
  have Hbox := Lib.hid ((Row.new w #[.slice aS S.length cS, .slice aM M.length cM, .int .i64 L] 24).alloc (.cells #[.int .i64 i] 3))
  have Hbi : Hid (Row ((w.alloc (.cells #[.slice aS S.length cS, .slice aM M.length cM, .int .i64 L] 24)).alloc (.cells #[.int .i64 i] 3)) (w.heap.size + 1) 3 [.int .i64 i]) := Lib.hid (by
    have h1 := Row.new (w.alloc (.cells #[.slice aS S.length cS, .slice aM M.length cM, .int .i64 L] 24)) #[.int .i64 i] 3
    simpa using h1)
  have HS := Lib.hid hS
  have HM := Lib.hid hM
  have HB := Lib.hid hB
  clear hB hS hM
  by_cases hv : vldB S M L = true
  · rw [hv] at HV
    by_cases hi : 0 ≤ i
    · rw [if_pos ⟨hv, hi⟩]
      have Hv := Lib.hid hv
      have d1 : decide (i < 0) = false := decide_eq_false (by omega)
      clear hv
      go_enter Try.func34, Try.ntmps34
      go_wp2_with fail
      refine HV.out.mono ?_
      rintro e w1 ⟨rfl, hb1⟩
      have Hb1 := Lib.hid (below_of HB.out hb1 (by simp; omega))
      have hbx := Hbox.out.later hb1 (by simp; omega)
      have hc0 := hbx.cell 0
      have hc1 := hbx.cell 1
      have hc2 := hbx.cell 2
      simp only [List.getElem?_cons_succ, List.getElem?_cons_zero] at hc0 hc1 hc2
      have Hbi1 := Lib.hid (Hbi.out.later hb1 (by simp))
      have hci := Hbi1.out.cell 0
      simp only [List.getElem?_cons_zero] at hci
      clear hb1 hbx
      go_wp2_with fail
      refine (sum_any S M L aS aM cS cM w1 104 #[.pointer (some ⟨w.heap.size + 1, 0, none⟩)] (fun u o => u == i && o == i) Try.call104 (self1_any w1 _ i Hbi1.out) Hv.out (HS.out.later Hb1.out) (HM.out.later Hb1.out)).mono ?_
      rintro e w2 ⟨rfl, hb2⟩
      have Hb2 := Lib.hid (below_step Hb1.out hb2)
      clear hb2
      go_wp2_with fail
      go_ret
      exact ⟨rfl, Hb2.out⟩
    · rw [if_neg (fun h => hi h.2)]
      have d1 : decide (i < 0) = true := decide_eq_true (by omega)
      clear hv
      go_enter Try.func34, Try.ntmps34
      go_wp2_with fail
      refine HV.out.mono ?_
      rintro e w1 ⟨rfl, hb1⟩
      have Hb1 := Lib.hid (below_of HB.out hb1 (by simp; omega))
      have Hbi1 := Lib.hid (Hbi.out.later hb1 (by simp))
      have hci := Hbi1.out.cell 0
      simp only [List.getElem?_cons_zero] at hci
      clear hb1
      go_wp2_with fail
      go_ret
      exact ⟨rfl, Hb1.out⟩
  · rw [if_neg (fun h => hv h.1)]
    have hv2 : vldB S M L = false := by simpa using hv
    rw [hv2] at HV
    clear hv hv2
    go_enter Try.func34, Try.ntmps34
    go_wp2_with fail
    refine HV.out.mono ?_
    rintro e w1 ⟨rfl, hb1⟩
    have Hb1 := Lib.hid (below_of HB.out hb1 (by simp; omega))
    clear hb1
    go_wp2_with fail
    go_ret
    exact ⟨rfl, Hb1.out⟩
/-- The number of components. -/
def compsN (S M : List Int) (L : Int) : Int := if vldB S M L = true then ((strandsL S M L).length : Int) + L else 0
set_option maxRecDepth 100000 in
set_option maxHeartbeats 2000000 in
theorem components_any (S M : List Int) (L : Int) (aS aM : Option Addr) (cS cM : Nat) (w : World) (hSl : S.length ≤ 1000000000) (hMl : M.length ≤ 1000000000) (hS : IntsAt w aS S) (hM : IntsAt w aM M) :
    Calls Try.prog 40 #[.agg #[.slice aS S.length cS, .slice aM M.length cM, .int .i64 L]] w fun e w' => e = .returned (.int .i64 (compsN S M L)) ∧ Below w.heap.size w w' := by
  have hB : Below w.heap.size w (w.alloc (.cells #[.slice aS S.length cS, .slice aM M.length cM, .int .i64 L] 24)) := (Below.refl _ _).alloc (Nat.le_refl _) _
  have HV := Lib.hid (valid_any S M L aS aM cS cM (w.alloc (.cells #[.slice aS S.length cS, .slice aM M.length cM, .int .i64 L] 24)) hSl hMl (hS.later hB) (hM.later hB))
  have Hbox := Lib.hid (Row.new w #[.slice aS S.length cS, .slice aM M.length cM, .int .i64 L] 24)
  have HS := Lib.hid hS
  have HM := Lib.hid hM
  have HB := Lib.hid hB
  clear hB hS hM
  by_cases hv : vldB S M L = true
  · have Hc : Hid (compsN S M L = ((strandsL S M L).length : Int) + L) := Lib.hid (if_pos hv)
    rw [hv] at HV
    have hl1 := (strandsL_lists hv).few
    have hl2 := (vldB_shape hv).few
    have hl3 := (vldB_shape hv).lo
    have hl4 := (vldB_shape hv).hi
    clear hv
    go_enter Try.func40, Try.ntmps40
    go_wp2_with fail
    refine HV.out.mono ?_
    rintro e w1 ⟨rfl, hb1⟩
    have Hb1 := Lib.hid (below_of HB.out hb1 (by simp))
    have Hbx := Lib.hid (Hbox.out.later hb1 (by simp))
    have Hbx3 : Hid (∀ W, Below w1.heap.size w1 W → W.cell? ⟨w.heap.size, 2, none⟩ = some (.int .i64 L)) := Lib.hid fun W hW => by
      have h1 := (Hbx.out.later hW Hbx.out.lt).cell 2
      simpa using h1
    have HSt : Hid (∀ W, Below w1.heap.size w1 W → Calls Try.prog 54 #[.agg #[.slice aS S.length cS, .slice aM M.length cM, .int .i64 L]] W fun e w' => ∃ a c, e = .returned (.slice a (strandsL S M L).length c) ∧ Below w1.heap.size w1 w') := Lib.hid fun W hW =>
      (strands_any S M L aS aM cS cM W hSl hMl (HS.out.later (below_step Hb1.out hW)) (HM.out.later (below_step Hb1.out hW))).mono fun e w' ⟨a, c, he, hb, _⟩ => ⟨a, c, he, below_step hW hb⟩
    have hc0 := Hbx.out.cell 0
    have hc1 := Hbx.out.cell 1
    have hc2 := Hbx.out.cell 2
    simp only [List.getElem?_cons_succ, List.getElem?_cons_zero] at hc0 hc1 hc2
    generalize (strandsL S M L).length = ln at *
    clear hb1
    go_wp2_with fail
    go_region_with (go_at_call 54; refine (HSt.out _ ((Below.refl _ _).drew)).mono ?_; rintro e w2 ⟨a, c, rfl, hb2⟩; have hc2' := Hbx3.out _ hb2)
    all_goals (have Hb2 := Lib.hid (below_step Hb1.out hb2); go_wp2_with fail; go_ret; rw [Hc.out]; refine ⟨?_, Hb2.out⟩; clear hSl hMl HV Hbox HS HM HB HSt; simp [Act.put]; rw [IntKind.wrap_i64]; omega)
  · have Hc : Hid (compsN S M L = 0) := Lib.hid (if_neg hv)
    have hv2 : vldB S M L = false := by simpa using hv
    rw [hv2] at HV
    clear hv hv2
    go_enter Try.func40, Try.ntmps40
    go_wp2_with fail
    refine HV.out.mono ?_
    rintro e w1 ⟨rfl, hb1⟩
    have Hb1 := Lib.hid (below_of HB.out hb1 (by simp))
    clear hb1
    go_wp2_with fail
    go_ret
    rw [Hc.out]
    exact ⟨rfl, Hb1.out⟩
end Go.Proofs.Ytkopbcehfbmnmaa
