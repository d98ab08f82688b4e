/- The walk of mirror.Smooth. -/
import Derived.Test.YtkopbcehfbmnmaaWithoW
import Derived.Test.YtkopbcehfbmnmaaNMap
import Derived.Test.YtkopbcehfbmnmaaCloneB
import Derived.Deep.DeepCutAuto
namespace Go.Proofs.Ytkopbcehfbmnmaa
open Go Go.RowKit
theorem uAdd_updN (p : Nat) (F : Nat → Bool) (x : Nat) : uAdd p F x = updN (updN F x true) (jn p x) true := by
  funext i
  unfold uAdd updN
  by_cases e1 : i = jn p x
  · rw [if_pos e1, decide_eq_true e1, Bool.or_true]
  · rw [if_neg e1, decide_eq_false e1, Bool.or_false]
    by_cases e2 : i = x
    · rw [if_pos e2, decide_eq_true e2, Bool.or_true]
    · rw [if_neg e2, decide_eq_false e2, Bool.or_false]
/-- The four half-edges of c; what the map of the joins holds. -/
def ky (S : List Int) (c i : Nat) : Nat := if i = 0 then 4 * c else if i = 1 then jn (pS S c) (4 * c) else if i = 2 then jn (pS S c) (4 * c + 2) else 4 * c + 2
def JF (S : List Int) (c x : Nat) : Nat := if x / 4 = c then jn (pS S c) x else 0
theorem ky_div (S : List Int) (c i : Nat) : ky S c i / 4 = c := by
  unfold ky
  by_cases h0 : i = 0
  · rw [if_pos h0]; omega
  · rw [if_neg h0]
    by_cases h1 : i = 1
    · rw [if_pos h1, jn_div]; omega
    · rw [if_neg h1]
      by_cases h2 : i = 2
      · rw [if_pos h2, jn_div]; omega
      · rw [if_neg h2]; omega
theorem ky_le (S : List Int) (c : Nat) (hc : c < S.length) (hS : S.length ≤ 64) : ∀ i, ky S c i ≤ 1000000 := fun i => by have := ky_div S c i; omega
theorem ky_all (S : List Int) (c : Nat) (l : List Nat) (hl : ∀ i, i < 4 → i ∈ l) (x : Nat) : (if x ∈ l.map (ky S c) then jn (pS S c) x else 0) = JF S c x := by
  unfold JF
  have t2 : tn (4 * c) 2 = 4 * c + 2 := by unfold tn; omega
  by_cases h : x / 4 = c
  · rw [if_pos h, if_pos]
    rw [List.mem_map]
    rcases four_of (pS S c) (y := 4 * c) (z := x) (by omega) with e | e | e | e
    · exact ⟨0, hl 0 (by omega), e.symm⟩
    · exact ⟨1, hl 1 (by omega), e.symm⟩
    · exact ⟨3, hl 3 (by omega), by rw [e, t2]; rfl⟩
    · exact ⟨2, hl 2 (by omega), by rw [e, ← jn_tn2, t2]; rfl⟩
  · rw [if_neg h, if_neg]
    rw [List.mem_map]
    rintro ⟨i, _, rfl⟩
    exact h (ky_div S c i)
/-- .. slices of its own. -/
def DgO (w : World) (S' M' : List Int) (L' err : Int) (e : Ending) (w' : World) : Prop :=
  ∃ (a b : Option Addr) (c d : Nat), e = .returned (.tuple #[.agg #[.slice a S'.length c, .slice b M'.length d, .int .i64 L'], .int .i64 err]) ∧ Own w' w.heap.size 3 a c (ints S') ∧ Own w' w.heap.size 3 b d (ints M') ∧ Below w.heap.size w w'
theorem DgO.toR {w : World} {S' M' : List Int} {L' err : Int} {e : Ending} {w' : World} (h : DgO w S' M' L' err e w') : DgR w S' M' L' err e w' := by
  obtain ⟨a, b, c, d, h1, h2, h3, h4⟩ := h
  exact ⟨a, b, c, d, h1, h2.ints, h3.ints, h4⟩
set_option maxRecDepth 100000 in
set_option maxHeartbeats 16000000 in
theorem smooth_own (S M : List Int) (L : Int) (aS aM : Option Addr) (cS cM c : Nat) (w : World) (Post : Ending → World → Prop) (hyes : L + (newL M (pS S c) c : Nat) ≤ 64 → ∀ e w', DgO w (smS S c) (smM S M c) (L + (newL M (pS S c) c : Nat)) 0 e w' → Post e w') (hno : ¬ L + (newL M (pS S c) c : Nat) ≤ 64 → ∀ e w', DgO w [] [] 0 5 e w' → Post e w') (hv : vldB S M L = true) (hc : c < S.length) (hS : IntsAt w aS S) (hM : IntsAt w aM M) :
    Calls Try.prog 57 #[.agg #[.slice aS S.length cS, .slice aM M.length cM, .int .i64 L], .int .i64 (c : Int)] w Post := by
  have hs := vldB_shape hv
  have hSl := hs.few
  have hMl : M.length ≤ 256 := by have := hs.len; omega
  have hM4a : 4 * S.length ≤ M.length := by have := hs.len; omega
  have hM4b : M.length ≤ 4 * S.length := by have := hs.len; omega
  have hL0 := hs.lo
  have hL1 := hs.hi
  obtain ⟨bS, oS, rfl, hbS, hcS⟩ := hS.open (by omega)
  obtain ⟨bM, oM, rfl, hbM, hcM⟩ := hM.open (by omega)
  have HcS : Hid (∀ W', Below w.heap.size w W' → ∀ x, x < S.length → W'.cell? ⟨bS, oS + x, none⟩ = some (.int .i64 (nth S x))) := Lib.hid fun W' h x hx => (h.cell (p := ⟨bS, oS + x, none⟩) hbS).trans (hcS x hx)
  have HcM : Hid (∀ W', Below w.heap.size w W' → ∀ x, x < 4 * S.length → W'.cell? ⟨bM, oM + x, none⟩ = some (.int .i64 ((mt M x : Nat) : Int))) := Lib.hid fun W' h x hx => by
    rw [h.cell (p := ⟨bM, oM + x, none⟩) hbM, hcM x (by omega), show nth M x = ((mt M x : Nat) : Int) from (hs.cast x hx).symm]
  obtain ⟨W, hW⟩ : ∃ W, W = ((w.alloc (.cells #[.slice (some ⟨bS, oS, none⟩) S.length cS, .slice (some ⟨bM, oM, none⟩) M.length cM, .int .i64 L] 24)).alloc (.cells #[.slice none 0 0, .slice none 0 0, .int .i64 0] 24)) := ⟨_, rfl⟩
  have h0 : HH w W [(w.heap.size, rowO 24 [.slice (some ⟨bS, oS, none⟩) S.length cS, .slice (some ⟨bM, oM, none⟩) M.length cM, .int .i64 L]), (w.heap.size + 1, rowO 24 [.slice none 0 0, .slice none 0 0, .int .i64 0])] [] := by rw [hW]; exact (((HH.start w).alloc #[.slice (some ⟨bS, oS, none⟩) S.length cS, .slice (some ⟨bM, oM, none⟩) M.length cM, .int .i64 L] 24 rfl rfl).alloc #[.slice none 0 0, .slice none 0 0, .int .i64 0] 24 (by simp) rfl)
  have H0 := Lib.hid h0
  have HV : Hid (Calls Try.prog 39 #[.agg #[.slice (some ⟨bS, oS, none⟩) S.length cS, .slice (some ⟨bM, oM, none⟩) M.length cM, .int .i64 L]] W fun e w' => e = .returned (.bool true) ∧ Below W.heap.size W w') := Lib.hid (by
    rw [← hv]; exact valid_any S M L _ _ cS cM W (by omega) (by omega) (h0.came hS) (h0.came hM))
  have HSM := Lib.hid (And.intro hS hM)
  have Hs := Lib.hid hs
  have Hyes := Lib.hid hyes
  have Hno := Lib.hid hno
  have Hm := Lib.hid hs.mates2
  have Hpp := Lib.hid (pS_pp S c)
  have Hw := Lib.hid (sm_way hs hc)
  have hnl := newL_le M (pS S c) c
  clear hv hS hM h0 hs hyes hno hcS hcM hbS hbM
  go_enter Try.func57, Try.ntmps57
  go_wp2_with fail
  rw [← hW]
  clear hW
  refine HV.out.mono ?_
  rintro e w1 ⟨rfl, hb1⟩
  have H1 := Lib.hid (H0.out.call hb1)
  clear hb1 HV H0
  have hc0 := H1.out.cell (k := 0) (i := 0) rfl rfl
  have hc1 := H1.out.cell (k := 0) (i := 1) rfl rfl
  have hc2 := H1.out.cell (k := 0) (i := 2) rfl rfl
  have hcc := HcS.out w1 H1.out.below c hc
  have d1 : decide ((c : Int) < 0) = false := decide_eq_false (by omega)
  have d2 : decide (S.length ≤ c) = false := decide_eq_false (by omega)
  have Hsg := Lib.hid (Hs.out.sign c hc)
  have Hp := Lib.hid (jn_0 (pS S c) c)
  have Hq := Lib.hid (jn_2 (pS S c) c)
  go_upto_if 45 with fail
  go_cut [8, 9] (fun s8 s9 wx => s8 = .int .i64 ((jn (pS S c) (4 * c + 2) : Nat) : Int) ∧ s9 = .int .i64 ((jn (pS S c) (4 * c) : Nat) : Int) ∧ wx = w1)
  case first =>
    rcases Hsg.out with hsg | hsg
    · have hp0 : pS S c = 0 := by unfold pS; rw [hsg]; rfl
      have e1 : ((jn (pS S c) (4 * c + 2) : Nat) : Int) = 4 * (c : Int) + 3 := by rw [Hq.out, if_pos hp0]; omega
      have e2 : ((jn (pS S c) (4 * c) : Nat) : Int) = 4 * (c : Int) + 1 := by rw [Hp.out, if_pos hp0]; omega
      have ht1 : (nth S c == -1) = false := by rw [hsg]; rfl
      have ht2 : decide (nth S c = -1) = false := by rw [hsg]; rfl
      have ht3 : ¬ nth S c = -1 := by rw [hsg]; decide
      have Hee := Lib.hid (And.intro e1 e2)
      clear hsg hp0 e1 e2
      go_wp2_with fail
      go_meet
      exact ⟨by rw [Hee.out.1], by rw [Hee.out.2], rfl⟩
    · have hp0 : ¬ pS S c = 0 := by unfold pS; rw [hsg]; decide
      have e1 : ((jn (pS S c) (4 * c + 2) : Nat) : Int) = 4 * (c : Int) + 1 := by rw [Hq.out, if_neg hp0]; omega
      have e2 : ((jn (pS S c) (4 * c) : Nat) : Int) = 4 * (c : Int) + 3 := by rw [Hp.out, if_neg hp0]; omega
      have ht1 : (nth S c == -1) = true := by rw [hsg]; rfl
      have ht2 : decide (nth S c = -1) = true := by rw [hsg]; rfl
      have Hee := Lib.hid (And.intro e1 e2)
      have ht3 := hsg
      clear hsg hp0 e1 e2
      go_wp2_with fail
      go_meet
      exact ⟨by rw [Hee.out.1], by rw [Hee.out.2], rfl⟩
  case rest =>
    obtain ⟨rfl, rfl, rfl⟩ := hcut
    go_wp2_with fail
    obtain ⟨r, hr⟩ : ∃ r, r = jn (pS S c) (4 * c) := ⟨_, rfl⟩
    obtain ⟨q, hq⟩ : ∃ q, q = jn (pS S c) (4 * c + 2) := ⟨_, rfl⟩
    rw [← hr, ← hq]
    have hpp := pS_pp S c
    have hk0 : ((ky S c 0 : Nat) : Int) = 4 * (c : Int) := by show ((4 * c : Nat) : Int) = _; omega
    have hk1 : ((ky S c 1 : Nat) : Int) = (r : Int) := by rw [hr]; rfl
    have hk2 : ((ky S c 2 : Nat) : Int) = (q : Int) := by rw [hq]; rfl
    have hk3 : ((ky S c 3 : Nat) : Int) = 4 * (c : Int) + 2 := by show ((4 * c + 2 : Nat) : Int) = _; omega
    have hv0 : ((jn (pS S c) (ky S c 0) : Nat) : Int) = (r : Int) := by rw [hr]; rfl
    have hv1 : ((jn (pS S c) (ky S c 1) : Nat) : Int) = 4 * (c : Int) := by show ((jn (pS S c) (jn (pS S c) (4 * c)) : Nat) : Int) = _; rw [jn_jn hpp]; omega
    have hv2 : ((jn (pS S c) (ky S c 2) : Nat) : Int) = 4 * (c : Int) + 2 := by show ((jn (pS S c) (jn (pS S c) (4 * c + 2)) : Nat) : Int) = _; rw [jn_jn hpp]; omega
    have hv3 : ((jn (pS S c) (ky S c 3) : Nat) : Int) = (q : Int) := by rw [hq]; rfl
    obtain ⟨W0, hW0⟩ : ∃ x, x = wc.drew.alloc (.map #[] 0) := ⟨_, rfl⟩
    have hHa : HH w W0 [(w.heap.size, rowO 24 [.slice (some ⟨bS, oS, none⟩) S.length cS, .slice (some ⟨bM, oM, none⟩) M.length cM, .int .i64 L]), (w.heap.size + 1, rowO 24 [.slice none 0 0, .slice none 0 0, .int .i64 0]), (wc.heap.size, fun _ => True)] [] := by rw [hW0]; exact H1.out.drew.allocO (.map #[] 0) rfl trivial
    have hNm : NMap intR (fun n : Nat => nd (n : Int)) 0 W0 wc.heap.size 0 (fun _ => 0) := by rw [hW0]; exact NMap.made (R := intR) (dat := fun n : Nat => nd (n : Int)) (z := (0 : Nat)) wc.drew
    have hmm0 : (Instr.makeMap 91 none).run Try.prog wc.drew = .ok (.map (some wc.heap.size)) W0 := by rw [hW0]; rfl
    obtain ⟨bJ, hbJ⟩ : ∃ x, x = wc.heap.size := ⟨_, rfl⟩
    rw [← hbJ] at hHa hNm hmm0
    have hmm : (Instr.makeMap 91 none).run Try.prog wc.drew = .ok (.map (some bJ)) (insL 91 bJ (fun n : Nat => Value.int .i64 (n : Int)) (ky S c) (jn (pS S c)) W0 []) := hmm0
    have hrun := fun (l : List Nat) (hl : l.length ≤ 9) (k : Nat) => insL_run elNat Try.underlying91 (key := ky S c) (J := jn (pS S c)) (ky_le S c hc hSl) hNm hHa (k0 := 2) rfl l hl k
    have e00 : (Instr.mapUpdate 91 (.map (some bJ)) (.int .i64 (4 * (c : Int))) (.int .i64 ((r : Int)))).run Try.prog (insL 91 bJ (fun n : Nat => Value.int .i64 (n : Int)) (ky S c) (jn (pS S c)) W0 []) = .ok () (insL 91 bJ (fun n : Nat => Value.int .i64 (n : Int)) (ky S c) (jn (pS S c)) W0 [0]) := by
      have := hrun [] (Nat.le_of_ble_eq_true rfl) 0
      rw [hk0, hv0] at this
      exact this
    have e01 : ∀ a : Nat, (Instr.mapUpdate 91 (.map (some bJ)) (.int .i64 (4 * (c : Int))) (.int .i64 ((r : Int)))).run Try.prog (insL 91 bJ (fun n : Nat => Value.int .i64 (n : Int)) (ky S c) (jn (pS S c)) W0 [a]) = .ok () (insL 91 bJ (fun n : Nat => Value.int .i64 (n : Int)) (ky S c) (jn (pS S c)) W0 [0, a]) := fun a => by
      have := hrun [a] (Nat.le_of_ble_eq_true rfl) 0
      rw [hk0, hv0] at this
      exact this
    have e02 : ∀ a b : Nat, (Instr.mapUpdate 91 (.map (some bJ)) (.int .i64 (4 * (c : Int))) (.int .i64 ((r : Int)))).run Try.prog (insL 91 bJ (fun n : Nat => Value.int .i64 (n : Int)) (ky S c) (jn (pS S c)) W0 [a, b]) = .ok () (insL 91 bJ (fun n : Nat => Value.int .i64 (n : Int)) (ky S c) (jn (pS S c)) W0 [0, a, b]) := fun a b => by
      have := hrun [a, b] (Nat.le_of_ble_eq_true rfl) 0
      rw [hk0, hv0] at this
      exact this
    have e03 : ∀ a b d : Nat, (Instr.mapUpdate 91 (.map (some bJ)) (.int .i64 (4 * (c : Int))) (.int .i64 ((r : Int)))).run Try.prog (insL 91 bJ (fun n : Nat => Value.int .i64 (n : Int)) (ky S c) (jn (pS S c)) W0 [a, b, d]) = .ok () (insL 91 bJ (fun n : Nat => Value.int .i64 (n : Int)) (ky S c) (jn (pS S c)) W0 [0, a, b, d]) := fun a b d => by
      have := hrun [a, b, d] (Nat.le_of_ble_eq_true rfl) 0
      rw [hk0, hv0] at this
      exact this
    have e10 : (Instr.mapUpdate 91 (.map (some bJ)) (.int .i64 ((r : Int))) (.int .i64 (4 * (c : Int)))).run Try.prog (insL 91 bJ (fun n : Nat => Value.int .i64 (n : Int)) (ky S c) (jn (pS S c)) W0 []) = .ok () (insL 91 bJ (fun n : Nat => Value.int .i64 (n : Int)) (ky S c) (jn (pS S c)) W0 [1]) := by
      have := hrun [] (Nat.le_of_ble_eq_true rfl) 1
      rw [hk1, hv1] at this
      exact this
    have e11 : ∀ a : Nat, (Instr.mapUpdate 91 (.map (some bJ)) (.int .i64 ((r : Int))) (.int .i64 (4 * (c : Int)))).run Try.prog (insL 91 bJ (fun n : Nat => Value.int .i64 (n : Int)) (ky S c) (jn (pS S c)) W0 [a]) = .ok () (insL 91 bJ (fun n : Nat => Value.int .i64 (n : Int)) (ky S c) (jn (pS S c)) W0 [1, a]) := fun a => by
      have := hrun [a] (Nat.le_of_ble_eq_true rfl) 1
      rw [hk1, hv1] at this
      exact this
    have e12 : ∀ a b : Nat, (Instr.mapUpdate 91 (.map (some bJ)) (.int .i64 ((r : Int))) (.int .i64 (4 * (c : Int)))).run Try.prog (insL 91 bJ (fun n : Nat => Value.int .i64 (n : Int)) (ky S c) (jn (pS S c)) W0 [a, b]) = .ok () (insL 91 bJ (fun n : Nat => Value.int .i64 (n : Int)) (ky S c) (jn (pS S c)) W0 [1, a, b]) := fun a b => by
      have := hrun [a, b] (Nat.le_of_ble_eq_true rfl) 1
      rw [hk1, hv1] at this
      exact this
    have e13 : ∀ a b d : Nat, (Instr.mapUpdate 91 (.map (some bJ)) (.int .i64 ((r : Int))) (.int .i64 (4 * (c : Int)))).run Try.prog (insL 91 bJ (fun n : Nat => Value.int .i64 (n : Int)) (ky S c) (jn (pS S c)) W0 [a, b, d]) = .ok () (insL 91 bJ (fun n : Nat => Value.int .i64 (n : Int)) (ky S c) (jn (pS S c)) W0 [1, a, b, d]) := fun a b d => by
      have := hrun [a, b, d] (Nat.le_of_ble_eq_true rfl) 1
      rw [hk1, hv1] at this
      exact this
    have e20 : (Instr.mapUpdate 91 (.map (some bJ)) (.int .i64 ((q : Int))) (.int .i64 (4 * (c : Int) + 2))).run Try.prog (insL 91 bJ (fun n : Nat => Value.int .i64 (n : Int)) (ky S c) (jn (pS S c)) W0 []) = .ok () (insL 91 bJ (fun n : Nat => Value.int .i64 (n : Int)) (ky S c) (jn (pS S c)) W0 [2]) := by
      have := hrun [] (Nat.le_of_ble_eq_true rfl) 2
      rw [hk2, hv2] at this
      exact this
    have e21 : ∀ a : Nat, (Instr.mapUpdate 91 (.map (some bJ)) (.int .i64 ((q : Int))) (.int .i64 (4 * (c : Int) + 2))).run Try.prog (insL 91 bJ (fun n : Nat => Value.int .i64 (n : Int)) (ky S c) (jn (pS S c)) W0 [a]) = .ok () (insL 91 bJ (fun n : Nat => Value.int .i64 (n : Int)) (ky S c) (jn (pS S c)) W0 [2, a]) := fun a => by
      have := hrun [a] (Nat.le_of_ble_eq_true rfl) 2
      rw [hk2, hv2] at this
      exact this
    have e22 : ∀ a b : Nat, (Instr.mapUpdate 91 (.map (some bJ)) (.int .i64 ((q : Int))) (.int .i64 (4 * (c : Int) + 2))).run Try.prog (insL 91 bJ (fun n : Nat => Value.int .i64 (n : Int)) (ky S c) (jn (pS S c)) W0 [a, b]) = .ok () (insL 91 bJ (fun n : Nat => Value.int .i64 (n : Int)) (ky S c) (jn (pS S c)) W0 [2, a, b]) := fun a b => by
      have := hrun [a, b] (Nat.le_of_ble_eq_true rfl) 2
      rw [hk2, hv2] at this
      exact this
    have e23 : ∀ a b d : Nat, (Instr.mapUpdate 91 (.map (some bJ)) (.int .i64 ((q : Int))) (.int .i64 (4 * (c : Int) + 2))).run Try.prog (insL 91 bJ (fun n : Nat => Value.int .i64 (n : Int)) (ky S c) (jn (pS S c)) W0 [a, b, d]) = .ok () (insL 91 bJ (fun n : Nat => Value.int .i64 (n : Int)) (ky S c) (jn (pS S c)) W0 [2, a, b, d]) := fun a b d => by
      have := hrun [a, b, d] (Nat.le_of_ble_eq_true rfl) 2
      rw [hk2, hv2] at this
      exact this
    have e30 : (Instr.mapUpdate 91 (.map (some bJ)) (.int .i64 (4 * (c : Int) + 2)) (.int .i64 ((q : Int)))).run Try.prog (insL 91 bJ (fun n : Nat => Value.int .i64 (n : Int)) (ky S c) (jn (pS S c)) W0 []) = .ok () (insL 91 bJ (fun n : Nat => Value.int .i64 (n : Int)) (ky S c) (jn (pS S c)) W0 [3]) := by
      have := hrun [] (Nat.le_of_ble_eq_true rfl) 3
      rw [hk3, hv3] at this
      exact this
    have e31 : ∀ a : Nat, (Instr.mapUpdate 91 (.map (some bJ)) (.int .i64 (4 * (c : Int) + 2)) (.int .i64 ((q : Int)))).run Try.prog (insL 91 bJ (fun n : Nat => Value.int .i64 (n : Int)) (ky S c) (jn (pS S c)) W0 [a]) = .ok () (insL 91 bJ (fun n : Nat => Value.int .i64 (n : Int)) (ky S c) (jn (pS S c)) W0 [3, a]) := fun a => by
      have := hrun [a] (Nat.le_of_ble_eq_true rfl) 3
      rw [hk3, hv3] at this
      exact this
    have e32 : ∀ a b : Nat, (Instr.mapUpdate 91 (.map (some bJ)) (.int .i64 (4 * (c : Int) + 2)) (.int .i64 ((q : Int)))).run Try.prog (insL 91 bJ (fun n : Nat => Value.int .i64 (n : Int)) (ky S c) (jn (pS S c)) W0 [a, b]) = .ok () (insL 91 bJ (fun n : Nat => Value.int .i64 (n : Int)) (ky S c) (jn (pS S c)) W0 [3, a, b]) := fun a b => by
      have := hrun [a, b] (Nat.le_of_ble_eq_true rfl) 3
      rw [hk3, hv3] at this
      exact this
    have e33 : ∀ a b d : Nat, (Instr.mapUpdate 91 (.map (some bJ)) (.int .i64 (4 * (c : Int) + 2)) (.int .i64 ((q : Int)))).run Try.prog (insL 91 bJ (fun n : Nat => Value.int .i64 (n : Int)) (ky S c) (jn (pS S c)) W0 [a, b, d]) = .ok () (insL 91 bJ (fun n : Nat => Value.int .i64 (n : Int)) (ky S c) (jn (pS S c)) W0 [3, a, b, d]) := fun a b d => by
      have := hrun [a, b, d] (Nat.le_of_ble_eq_true rfl) 3
      rw [hk3, hv3] at this
      exact this
    have HE : Hid (∀ l : List Nat, l.length = 4 → (∀ i, i < 4 → i ∈ l) → HH w (insL 91 bJ (fun n : Nat => Value.int .i64 (n : Int)) (ky S c) (jn (pS S c)) W0 l) [(w.heap.size, rowO 24 [.slice (some ⟨bS, oS, none⟩) S.length cS, .slice (some ⟨bM, oM, none⟩) M.length cM, .int .i64 L]), (w.heap.size + 1, rowO 24 [.slice none 0 0, .slice none 0 0, .int .i64 0]), (bJ, mapO intR (fun n : Nat => nd (n : Int)) 0 4 (JF S c))] []) := Lib.hid fun l hl hi => by
      obtain ⟨i1, i2⟩ := insL_all elNat Try.underlying91 (key := ky S c) (J := jn (pS S c)) (ky_le S c hc hSl) hNm hHa (k0 := 2) rfl l (by omega)
      rw [hl] at i1
      obtain ⟨o, ho, hr⟩ := (i1.congr (g := JF S c) fun x _ => ky_all S c l hi x).obj
      exact i2.upd (k := 2) rfl rfl rfl rfl (Nat.le_refl _) (fun _ _ _ => rfl) ho hr
    have Hqr := Lib.hid (And.intro hr hq)
    clear hr hq hpp hk0 hk1 hk2 hk3 hv0 hv1 hv2 hv3 hW0 hHa hNm hmm0 hbJ hrun Hsg Hp Hq
    go_cut [10] (fun s10 wx => ∃ bJ, s10 = .map (some bJ) ∧ HH w wx [(w.heap.size, rowO 24 [.slice (some ⟨bS, oS, none⟩) S.length cS, .slice (some ⟨bM, oM, none⟩) M.length cM, .int .i64 L]), (w.heap.size + 1, rowO 24 [.slice none 0 0, .slice none 0 0, .int .i64 0]), (bJ, mapO intR (fun n : Nat => nd (n : Int)) 0 4 (JF S c))] [])
    case first =>
      go_region
      all_goals (go_wp2_with fail; go_meet)
      all_goals exact ⟨bJ, rfl, HE.out _ rfl (by decide)⟩
    case rest =>
      obtain ⟨bJ, rfl, hh⟩ := hcut
      have H2 := Lib.hid hh
      clear hh H1 hc0 hc1 hc2 HE hmm e00 e01 e02 e03 e10 e11 e12 e13 e20 e21 e22 e23 e30 e31 e32 e33 hcc d1 d2
      have hc0 := H2.out.cell (k := 0) (i := 0) rfl rfl
      have hc1 := H2.out.cell (k := 0) (i := 1) rfl rfl
      have hc2 := H2.out.cell (k := 0) (i := 2) rfl rfl
      go_wp2_with fail
      refine (sclone_own M (some ⟨bM, oM, none⟩) cM wc (by omega) (by omega) (H2.out.came HSM.out.2)).mono ?_
      rintro e w3 ⟨aC, cC, rfl, hO3, hb3⟩
      have H3 := Lib.hid (H2.out.addSl hb3 hO3)
      obtain ⟨bC, oC, rfl, _⟩ := hO3.open (by rw [ints_length]; omega)
      clear hO3 hb3 H2 hc0 hc1 hc2
      have hc0 := H3.out.cell (k := 0) (i := 0) rfl rfl
      have hc1 := H3.out.cell (k := 0) (i := 1) rfl rfl
      have hc2 := H3.out.cell (k := 0) (i := 2) rfl rfl
      go_upto_region 13 with (with_reducible refine wpList_makeMap_n rfl 92 rfl ?_)
      obtain ⟨w4, hw4⟩ : ∃ x, x = w3.alloc (.map #[] 0) := ⟨_, rfl⟩
      rw [← hw4]
      have h4 : HH w w4 [(w.heap.size, rowO 24 [.slice (some ⟨bS, oS, none⟩) S.length cS, .slice (some ⟨bM, oM, none⟩) M.length cM, .int .i64 L]), (w.heap.size + 1, rowO 24 [.slice none 0 0, .slice none 0 0, .int .i64 0]), (bJ, mapO intR (fun n : Nat => nd (n : Int)) 0 4 (JF S c)), (w3.heap.size, mapO boolR bd false 0 (fun _ => false))] [⟨some ⟨bC, oC, none⟩, cC, 3, ints M⟩] := by
        rw [hw4]; exact H3.out.allocO (.map #[] 0) rfl (mapO_made w3)
      obtain ⟨bU, hbU⟩ : ∃ x, x = w3.heap.size := ⟨_, rfl⟩
      rw [← hbU] at h4
      rw [← hbU]
      have H4 := Lib.hid h4
      clear h4 hw4 hbU H3 hc0 hc1 hc2
      have hc0 := H4.out.cell (k := 0) (i := 0) rfl rfl
      have hc1 := H4.out.cell (k := 0) (i := 1) rfl rfl
      have hc2 := H4.out.cell (k := 0) (i := 2) rfl rfl
      go_wp2_with fail
      clear hc0 hc1 hc2
      go_loopg [67] M.length (fun g v wr => ∃ h N : Nat, h ≤ M.length ∧ g = M.length - h ∧ v = .int .i64 h ∧ N ≤ 12 * h ∧ HH w wr [(w.heap.size, rowO 24 [.slice (some ⟨bS, oS, none⟩) S.length cS, .slice (some ⟨bM, oM, none⟩) M.length cM, .int .i64 L]), (w.heap.size + 1, rowO 24 [.slice none 0 0, .slice none 0 0, .int .i64 0]), (bJ, mapO intR (fun n : Nat => nd (n : Int)) 0 4 (JF S c)), (bU, mapO boolR bd false N (usT M (pS S c) c h))] [⟨some ⟨bC, oC, none⟩, cC, 3, ints (mtT M (pS S c) c h)⟩])
      case atStart => exact ⟨0, 0, Nat.zero_le _, rfl, rfl, Nat.le_refl _, H4.out⟩
      case round =>
        clear H4
        obtain ⟨h, N, hh, rfl, rfl, hN, hk⟩ := hrel
        have Hk := Lib.hid hk
        clear hk
        by_cases hhl : h < M.length
        · have hcm := HcM.out wr Hk.out.below h (by omega)
          have hml := Hs.out.mt_lt (x := h) (by omega)
          by_cases hhc : h / 4 = c
          · have ht1 : (h : Int) / 4 = (c : Int) := by omega
            have Hst : Hid (usT M (pS S c) c (h + 1) = usT M (pS S c) c h ∧ mtT M (pS S c) c (h + 1) = mtT M (pS S c) c h) := Lib.hid ⟨if_pos hhc, if_pos hhc⟩
            clear hhc
            generalize mt M h = m at *
            go_wp2_with fail
            go_roundg (M.length - (h + 1))
            case measure => omega
            case rel => exact ⟨h + 1, N, by omega, rfl, by go_num, by omega, by rw [Hst.out.1, Hst.out.2]; exact Hk.out⟩
          · have ht1 : ¬ ((h : Int) / 4 = (c : Int)) := by omega
            have ht2 : ((h : Int) / 4 == (c : Int)) = false := by rw [beq_eq_false_iff_ne]; exact ht1
            have Hst : Hid (usT M (pS S c) c (h + 1) = uRun M (pS S c) (usT M (pS S c) c h) (mt M h) (pas M (pS S c) c (mt M h)) ∧ mtT M (pS S c) c (h + 1) = (mtT M (pS S c) c h).set h ((thr M (pS S c) c (mt M h) : Nat) : Int)) := Lib.hid ⟨if_neg hhc, if_neg hhc⟩
            have Hith := Lib.hid (pas_thr M (pS S c) c (mt M h))
            have Hpin := Lib.hid (pas_in M (pS S c) c (mt M h))
            have Hout := Lib.hid (thr_out Hm.out Hpp.out (x := h) (by omega) hhc)
            have Hil := Lib.hid (gst_iter_lt (p := pS S c) Hm.out hml)
            have Hpas := Lib.hid (pas_le M (pS S c) c (mt M h))
            obtain ⟨R, hR⟩ : ∃ R, R = pas M (pS S c) c (mt M h) := ⟨_, rfl⟩
            rw [← hR] at Hith Hpin Hst Hpas
            have hR2 : R ≤ 2 := Hpas.out
            clear hR hhc
            go_wp2_with fail
            clear hcm
            go_loopg [14] R (fun g v wr => ∃ r : Nat, r ≤ R ∧ g = R - r ∧ v = .int .i64 ((iter (gst M (pS S c)) r (mt M h) : Nat) : Int) ∧ HH w wr [(w.heap.size, rowO 24 [.slice (some ⟨bS, oS, none⟩) S.length cS, .slice (some ⟨bM, oM, none⟩) M.length cM, .int .i64 L]), (w.heap.size + 1, rowO 24 [.slice none 0 0, .slice none 0 0, .int .i64 0]), (bJ, mapO intR (fun n : Nat => nd (n : Int)) 0 4 (JF S c)), (bU, mapO boolR bd false (N + 2 * r) (uRun M (pS S c) (usT M (pS S c) c h) (mt M h) r))] [⟨some ⟨bC, oC, none⟩, cC, 3, ints (mtT M (pS S c) c h)⟩])
            case atStart => exact ⟨0, Nat.zero_le _, rfl, rfl, Hk.out⟩
            case round =>
              clear Hk
              obtain ⟨r, hr, rfl, rfl, hk⟩ := hrel
              have Hk := Lib.hid hk
              clear hk
              have hil := Hil.out r
              by_cases hrR : r < R
              · have hmc := Hpin.out r hrR
                have Hnx : Hid (iter (gst M (pS S c)) (r + 1) (mt M h) = mt M (jn (pS S c) (iter (gst M (pS S c)) r (mt M h))) ∧ uRun M (pS S c) (usT M (pS S c) c h) (mt M h) (r + 1) = uAdd (pS S c) (uRun M (pS S c) (usT M (pS S c) c h) (mt M h) r) (iter (gst M (pS S c)) r (mt M h))) := Lib.hid ⟨rfl, rfl⟩
                have HJ : Hid (JF S c (iter (gst M (pS S c)) r (mt M h)) = jn (pS S c) (iter (gst M (pS S c)) r (mt M h))) := Lib.hid (if_pos hmc)
                have hjl := jn_lt (p := pS S c) hil
                have hgl := Hm.out.lt hjl
                have Hcz : Hid (∀ W', Below w.heap.size w W' → W'.cell? ⟨bM, oM + jn (pS S c) (iter (gst M (pS S c)) r (mt M h)), none⟩ = some (.int .i64 ((mt M (jn (pS S c) (iter (gst M (pS S c)) r (mt M h))) : Nat) : Int))) := Lib.hid fun W' hW' => HcM.out W' hW' _ hjl
                have ht3 : ((iter (gst M (pS S c)) r (mt M h) : Nat) : Int) / 4 = (c : Int) := by omega
                rw [uAdd_updN] at Hnx
                generalize uRun M (pS S c) (usT M (pS S c) c h) (mt M h) r = F at *
                generalize iter (gst M (pS S c)) r (mt M h) = x at *
                clear hmc
                generalize jn (pS S c) x = y at *
                generalize mt M y = z at *
                go_wp2_with (first
                    | (with_reducible refine wpList_store_n elBool rfl 92 (.tmp 80) (.tmp 81) (.const (.bool true)) rfl Try.underlying92 bU (N + 2 * r) (x) (F) true _ rfl rfl rfl rfl (by omega) (Hk.out.nmap (k := 3) rfl) (by omega) ?_; intro w6 hm6 ht6; have H6 := Lib.hid (Hk.out.mapTurn (k := 3) rfl hm6 ht6); clear hm6 ht6)
                    | (with_reducible refine wpList_lookup_n elNat rfl 91 (.tmp 82) (.tmp 83) rfl Try.underlying91 Try.zeroValue3 bJ 4 (x) (JF S c) _ rfl rfl rfl (by omega) (H6.out.nmap (k := 2) rfl) (y) HJ.out (.int .i64 ((y : Nat) : Int)) rfl ?_)
                    | ((with_reducible refine wpList_store_n elBool rfl 92 (.tmp 85) (.tmp 86) (.const (.bool true)) rfl Try.underlying92 bU (N + 2 * r + 1) (y) (updN F x true) true _ rfl rfl rfl rfl (by omega) (H6.out.nmap (k := 3) rfl) (by omega) ?_; intro w7 hm7 ht7; have H7 := Lib.hid (H6.out.mapTurn (k := 3) rfl hm7 ht7); clear hm7 ht7); have hb1 := H7.out.cell (k := 0) (i := 1) rfl rfl; have hcz := Hcz.out w7 H7.out.below))
                go_roundg (R - (r + 1))
                case measure => omega
                case rel => exact ⟨r + 1, by omega, rfl, by rw [Hnx.out.1], by rw [Hnx.out.2]; exact H7.out⟩
              · obtain rfl : r = R := by omega
                have hto := Hout.out
                rw [← Hith.out] at hto
                have hk := Hk.out
                rw [← Hst.out.1] at hk
                have hsl := hk.slSet (k := 0) rfl h (by rw [ints_length, mtT_len]; omega) (.int .i64 ((thr M (pS S c) c (mt M h) : Nat) : Int))
                rw [ints_set, ← Hst.out.2] at hsl
                have Hsl := Lib.hid hsl
                rw [Hith.out] at hil hto
                have hz1 : ¬ (((thr M (pS S c) c (mt M h) : Nat) : Int) / 4 = (c : Int)) := by omega
                have hz2 : (((thr M (pS S c) c (mt M h) : Nat) : Int) / 4 == (c : Int)) = false := by rw [beq_eq_false_iff_ne]; exact hz1
                obtain ⟨bC2, oC2, hbe, _, _, hcC, hfC⟩ := (hk.sl (k := 0) rfl).open (by rw [ints_length, mtT_len]; omega)
                simp only [Option.some.injEq, Addr.mk.injEq, and_true] at hbe
                obtain ⟨rfl, rfl⟩ := hbe
                have hcw := hcC h _ (ints_get _ h (by rw [mtT_len]; omega))
                have hfw := hfC (oC + h)
                rw [Hith.out]
                generalize nth (mtT M (pS S c) c h) h = old at *
                generalize thr M (pS S c) c (mt M h) = t at *
                clear hk hsl hcC hfC hto
                go_wp2_with fail
                go_roundg (M.length - (h + 1))
                case measure => omega
                case rel => exact ⟨h + 1, N + 2 * r, by omega, rfl, by go_num, by omega, Hsl.out⟩
        · obtain rfl : h = M.length := by omega
          have hlen : M.length = 4 * S.length := by omega
          have h5 : HH w wr [(w.heap.size, rowO 24 [.slice (some ⟨bS, oS, none⟩) S.length cS, .slice (some ⟨bM, oM, none⟩) M.length cM, .int .i64 L]), (w.heap.size + 1, rowO 24 [.slice none 0 0, .slice none 0 0, .int .i64 0]), (bJ, mapO intR (fun n : Nat => nd (n : Int)) 0 4 (JF S c)), (bU, mapO boolR bd false N (usT M (pS S c) c (4 * S.length)))] [⟨some ⟨bC, oC, none⟩, cC, 3, ints (mtT M (pS S c) c (4 * S.length))⟩] := by
            have := Hk.out
            rw [hlen] at this
            rw [hlen]; exact this
          have H5 := Lib.hid h5
          clear h5 Hk hlen
          obtain ⟨U1, a, ha1, HA, HB, HC, HD⟩ := two_runs Hm.out Hpp.out Hw.out hc
          have HA := Lib.hid HA
          have HB := Lib.hid HB
          have HC := Lib.hid HC
          have HD := Lib.hid HD
          have HU0 := Lib.hid (usT_all Hm.out Hpp.out Hw.out (y := 4 * c) (by omega) (by omega))
          rw [← Hqr.out.2] at HC HD
          have hq4 : q < 4 * S.length := by rw [Hqr.out.2]; exact jn_lt (by omega)
          have hqc : q / 4 = c := by rw [Hqr.out.2, jn_div]; omega
          have hNb : N ≤ 4000 := by omega
          have hc0 := H5.out.cell (k := 0) (i := 0) rfl rfl
          have hc1 := H5.out.cell (k := 0) (i := 1) rfl rfl
          have hc2 := H5.out.cell (k := 0) (i := 2) rfl rfl
          go_wp2_with fail
          obtain ⟨w5, hw5⟩ : ∃ x, x = wr.alloc (.cells #[.int .i64 (4 * (c : Int)), .int .i64 (q : Int)] 3) := ⟨_, rfl⟩
          rw [← hw5]
          have h6 : HH w w5 [(w.heap.size, rowO 24 [.slice (some ⟨bS, oS, none⟩) S.length cS, .slice (some ⟨bM, oM, none⟩) M.length cM, .int .i64 L]), (w.heap.size + 1, rowO 24 [.slice none 0 0, .slice none 0 0, .int .i64 0]), (bJ, mapO intR (fun n : Nat => nd (n : Int)) 0 4 (JF S c)), (bU, mapO boolR bd false N (usT M (pS S c) c (4 * S.length))), (wr.heap.size, rowO 3 [.int .i64 (4 * (c : Int)), .int .i64 (q : Int)])] [⟨some ⟨bC, oC, none⟩, cC, 3, ints (mtT M (pS S c) c (4 * S.length))⟩] := by
            rw [hw5]; exact H5.out.alloc #[.int .i64 (4 * (c : Int)), .int .i64 (q : Int)] 3 rfl rfl
          obtain ⟨bA, hbA⟩ : ∃ x, x = wr.heap.size := ⟨_, rfl⟩
          rw [← hbA] at h6
          rw [← hbA]
          have H6 := Lib.hid h6
          clear h6 hw5 hbA H5 hc0 hc1 hc2 hN hh hhl
          go_loopg [15, 103] 2 (fun g lp v wr => ∃ (k N x : Nat) (f : Nat → Bool), k ≤ 2 ∧ g = 2 - k ∧ v = .int .i64 k ∧ lp = .int .i64 (L + (x : Int)) ∧ N ≤ 4000 + 10 * k ∧ x ≤ 2 ∧ (k = 0 → f = usT M (pS S c) c (4 * S.length) ∧ x = 0) ∧ (k = 1 → f = U1 ∧ x = a) ∧ (k = 2 → x = newL M (pS S c) c) ∧ HH w wr [(w.heap.size, rowO 24 [.slice (some ⟨bS, oS, none⟩) S.length cS, .slice (some ⟨bM, oM, none⟩) M.length cM, .int .i64 L]), (w.heap.size + 1, rowO 24 [.slice none 0 0, .slice none 0 0, .int .i64 0]), (bJ, mapO intR (fun n : Nat => nd (n : Int)) 0 4 (JF S c)), (bU, mapO boolR bd false N f), (bA, rowO 3 [.int .i64 (4 * (c : Int)), .int .i64 (q : Int)])] [⟨some ⟨bC, oC, none⟩, cC, 3, ints (mtT M (pS S c) c (4 * S.length))⟩])
          case atStart => exact ⟨0, N, 0, _, by omega, rfl, rfl, by rw [show ((0 : Nat) : Int) = 0 from rfl, Int.add_zero], by omega, by omega, fun _ => ⟨rfl, rfl⟩, fun e => absurd e (by decide), fun e => absurd e (by decide), H6.out⟩
          case round =>
            clear H6 hNb
            obtain ⟨k, N, xl, f, hk2, rfl, rfl, rfl, hNb, hx2, g0, g1, g2, hk⟩ := hrel
            have Hk := Lib.hid hk
            clear hk
            rcases (show k = 0 ∨ k = 1 ∨ k = 2 from by omega) with rfl | rfl | rfl
            · obtain ⟨rfl, rfl⟩ := g0 rfl
              clear g0 g1 g2
              have hca := Hk.out.cell (k := 4) (i := 0) rfl rfl
              by_cases hi : inn M (pS S c) c (4 * c) = true
              · have HFx : Hid ((usT M (pS S c) c (4 * S.length)) (4 * c) = false) := Lib.hid (by rw [HU0.out, hi]; rfl)
                obtain ⟨ha, R, hR2, hR3, hR4, hR5, hU1⟩ := HB.out hi
                have HRun := Lib.hid (And.intro hR3 (And.intro hR4 hR5))
                have HU1 := Lib.hid hU1
                have Ha1 := Lib.hid ha
                clear hR3 hR4 hR5 hU1 ha hi
                go_wp2_with (with_reducible refine wpList_lookup_n elBool rfl 92 (.tmp 107) (.tmp 108) rfl Try.underlying92 Try.zeroValue4 bU (N) (4 * c) (usT M (pS S c) c (4 * S.length)) _ rfl rfl rfl (by omega) (Hk.out.nmap (k := 3) rfl) false HFx.out (.bool false) rfl ?_)
                go_loopg [18] R (fun g v wr => ∃ r : Nat, r ≤ R ∧ g = R - r ∧ v = .int .i64 ((iter (gst M (pS S c)) r (4 * c) : Nat) : Int) ∧ HH w wr [(w.heap.size, rowO 24 [.slice (some ⟨bS, oS, none⟩) S.length cS, .slice (some ⟨bM, oM, none⟩) M.length cM, .int .i64 L]), (w.heap.size + 1, rowO 24 [.slice none 0 0, .slice none 0 0, .int .i64 0]), (bJ, mapO intR (fun n : Nat => nd (n : Int)) 0 4 (JF S c)), (bU, mapO boolR bd false (N + 2 * r) (uRun M (pS S c) (usT M (pS S c) c (4 * S.length)) (4 * c) r)), (bA, rowO 3 [.int .i64 (4 * (c : Int)), .int .i64 (q : Int)])] [⟨some ⟨bC, oC, none⟩, cC, 3, ints (mtT M (pS S c) c (4 * S.length))⟩])
                case atStart => exact ⟨0, Nat.zero_le _, rfl, by show Value.int .i64 _ = .int .i64 (((4 * c : Nat)) : Int); go_num, Hk.out⟩
                case round =>
                  clear Hk
                  obtain ⟨r, hr, rfl, rfl, hk⟩ := hrel
                  have Hk := Lib.hid hk
                  clear hk
                  by_cases hrR : r < R
                  · obtain ⟨hfx, hmc⟩ := HRun.out.1 r hrR
                    have HFx := Lib.hid hfx
                    have hil : iter (gst M (pS S c)) r (4 * c) < 4 * S.length := by omega
                    have Hnx : Hid (iter (gst M (pS S c)) (r + 1) (4 * c) = mt M (jn (pS S c) (iter (gst M (pS S c)) r (4 * c))) ∧ uRun M (pS S c) (usT M (pS S c) c (4 * S.length)) (4 * c) (r + 1) = uAdd (pS S c) (uRun M (pS S c) (usT M (pS S c) c (4 * S.length)) (4 * c) r) (iter (gst M (pS S c)) r (4 * c))) := Lib.hid ⟨rfl, rfl⟩
                    have HJ : Hid (JF S c (iter (gst M (pS S c)) r (4 * c)) = jn (pS S c) (iter (gst M (pS S c)) r (4 * c))) := Lib.hid (if_pos hmc)
                    have hjl := jn_lt (p := pS S c) hil
                    have hgl := Hm.out.lt hjl
                    have Hcz : Hid (∀ W', Below w.heap.size w W' → W'.cell? ⟨bM, oM + jn (pS S c) (iter (gst M (pS S c)) r (4 * c)), none⟩ = some (.int .i64 ((mt M (jn (pS S c) (iter (gst M (pS S c)) r (4 * c))) : Nat) : Int))) := Lib.hid fun W' hW' => HcM.out W' hW' _ hjl
                    rw [uAdd_updN] at Hnx
                    generalize uRun M (pS S c) (usT M (pS S c) c (4 * S.length)) (4 * c) r = F at *
                    generalize iter (gst M (pS S c)) r (4 * c) = x at *
                    clear hmc hfx
                    generalize jn (pS S c) x = y at *
                    generalize mt M y = z at *
                    go_wp2_with (first
                      | (with_reducible refine wpList_lookup_n elBool rfl 92 (.tmp 113) (.tmp 114) rfl Try.underlying92 Try.zeroValue4 bU (N + 2 * r) (x) (F) _ rfl rfl rfl (by omega) (Hk.out.nmap (k := 3) rfl) false HFx.out (.bool false) rfl ?_)
                      | (with_reducible refine wpList_store_n elBool rfl 92 (.tmp 124) (.tmp 125) (.const (.bool true)) rfl Try.underlying92 bU (N + 2 * r) (x) (F) true _ rfl rfl rfl rfl (by omega) (Hk.out.nmap (k := 3) rfl) (by omega) ?_; intro w6 hm6 ht6; have H6 := Lib.hid (Hk.out.mapTurn (k := 3) rfl hm6 ht6); clear hm6 ht6)
                      | (with_reducible refine wpList_lookup_n elNat rfl 91 (.tmp 127) (.tmp 128) rfl Try.underlying91 Try.zeroValue3 bJ 4 (x) (JF S c) _ rfl rfl rfl (by omega) (H6.out.nmap (k := 2) rfl) (y) HJ.out (.int .i64 ((y : Nat) : Int)) rfl ?_)
                      | ((with_reducible refine wpList_store_n elBool rfl 92 (.tmp 126) (.tmp 129) (.const (.bool true)) rfl Try.underlying92 bU (N + 2 * r + 1) (y) (updN F x true) true _ rfl rfl rfl rfl (by omega) (H6.out.nmap (k := 3) rfl) (by omega) ?_; intro w7 hm7 ht7; have H7 := Lib.hid (H6.out.mapTurn (k := 3) rfl hm7 ht7); clear hm7 ht7); have hb1 := H7.out.cell (k := 0) (i := 1) rfl rfl; have hcz := Hcz.out w7 H7.out.below)
                      | (with_reducible refine wpList_lookup_n elNat rfl 91 (.tmp 119) (.tmp 120) rfl Try.underlying91 Try.zeroValue3 bJ 4 (x) (JF S c) _ rfl rfl rfl (by omega) (H7.out.nmap (k := 2) rfl) (y) HJ.out (.int .i64 ((y : Nat) : Int)) rfl ?_))
                    go_roundg (R - (r + 1))
                    case measure => omega
                    case rel => exact ⟨r + 1, by omega, rfl, by rw [Hnx.out.1], by rw [Hnx.out.2]; exact H7.out⟩
                  · obtain rfl : R = r := by omega
                    obtain ⟨hfx, hmc⟩ := HRun.out.2
                    have HFx := Lib.hid hfx
                    have Hk0 := Lib.hid Hk.out
                    have hil : iter (gst M (pS S c)) R (4 * c) < 4 * S.length := by omega
                    generalize uRun M (pS S c) (usT M (pS S c) c (4 * S.length)) (4 * c) R = F at *
                    generalize iter (gst M (pS S c)) R (4 * c) = x at *
                    clear hmc hfx
                    go_wp2_with ((with_reducible refine wpList_lookup_n elBool rfl 92 (.tmp 113) (.tmp 114) rfl Try.underlying92 Try.zeroValue4 bU (N + 2 * R) (x) (F) _ rfl rfl rfl (by omega) (Hk.out.nmap (k := 3) rfl) true HFx.out (.bool true) rfl ?_))
                    go_roundg (2 - 1)
                    case measure => omega
                    case rel => exact ⟨1, N + 2 * R, 1, U1, by omega, rfl, by go_num, by go_num, by omega, by omega, fun e => absurd e (by decide), fun _ => ⟨rfl, Ha1.out.symm⟩, fun e => absurd e (by decide), by rw [HU1.out]; exact Hk0.out⟩
              · have hi' : inn M (pS S c) c (4 * c) = false := by simpa using hi
                have HFx : Hid ((usT M (pS S c) c (4 * S.length)) (4 * c) = true) := Lib.hid (by rw [HU0.out, hi']; rfl)
                have HAU := Lib.hid (HA.out hi')
                clear hi hi'
                go_wp2_with (with_reducible refine wpList_lookup_n elBool rfl 92 (.tmp 107) (.tmp 108) rfl Try.underlying92 Try.zeroValue4 bU (N) (4 * c) (usT M (pS S c) c (4 * S.length)) _ rfl rfl rfl (by omega) (Hk.out.nmap (k := 3) rfl) true HFx.out (.bool true) rfl ?_)
                go_roundg (2 - 1)
                case measure => omega
                case rel => exact ⟨1, N, 0, usT M (pS S c) c (4 * S.length), by omega, rfl, by go_num, by go_num, by omega, by omega, fun e => absurd e (by decide), fun _ => ⟨HAU.out.1.symm, HAU.out.2.symm⟩, fun e => absurd e (by decide), Hk.out⟩
            · obtain ⟨rfl, rfl⟩ := g1 rfl
              clear g0 g1 g2
              have hca := Hk.out.cell (k := 4) (i := 1) rfl rfl
              by_cases hu : f q = true
              · have HFx := Lib.hid hu
                have Hnw := Lib.hid (HD.out hu)
                clear hu
                go_wp2_with (with_reducible refine wpList_lookup_n elBool rfl 92 (.tmp 107) (.tmp 108) rfl Try.underlying92 Try.zeroValue4 bU (N) (q) (f) _ rfl rfl rfl (by omega) (Hk.out.nmap (k := 3) rfl) true HFx.out (.bool true) rfl ?_)
                go_roundg (2 - 2)
                case measure => omega
                case rel => exact ⟨2, N, xl, f, by omega, rfl, by go_num, rfl, by omega, by omega, fun e => absurd e (by decide), fun e => absurd e (by decide), fun _ => Hnw.out.symm, Hk.out⟩
              · have hu' : f q = false := by simpa using hu
                have HFx := Lib.hid hu'
                obtain ⟨hgq, hnw⟩ := HC.out hu'
                have Hnw := Lib.hid hnw
                obtain ⟨R, hR⟩ : ∃ R : Nat, R = 1 := ⟨_, rfl⟩
                have HRun : Hid ((∀ r, r < R → uRun M (pS S c) f q r (iter (gst M (pS S c)) r q) = false ∧ iter (gst M (pS S c)) r q / 4 = c) ∧ uRun M (pS S c) f q R (iter (gst M (pS S c)) R q) = true ∧ iter (gst M (pS S c)) R q / 4 = c) := Lib.hid ⟨fun r hr => by
                  obtain rfl : r = 0 := by omega
                  exact ⟨hu', hqc⟩, by
                  rw [hR, uRun_iff]
                  exact .inr ⟨0, by omega, .inl hgq⟩, by
                  rw [hR]
                  show gst M (pS S c) q / 4 = c
                  rw [hgq]; exact hqc⟩
                have hR2 : R ≤ 2 := by omega
                clear hu hu' hgq hnw hR
                go_wp2_with (with_reducible refine wpList_lookup_n elBool rfl 92 (.tmp 107) (.tmp 108) rfl Try.underlying92 Try.zeroValue4 bU (N) (q) (f) _ rfl rfl rfl (by omega) (Hk.out.nmap (k := 3) rfl) false HFx.out (.bool false) rfl ?_)
                go_loopg [18] R (fun g v wr => ∃ r : Nat, r ≤ R ∧ g = R - r ∧ v = .int .i64 ((iter (gst M (pS S c)) r (q) : Nat) : Int) ∧ HH w wr [(w.heap.size, rowO 24 [.slice (some ⟨bS, oS, none⟩) S.length cS, .slice (some ⟨bM, oM, none⟩) M.length cM, .int .i64 L]), (w.heap.size + 1, rowO 24 [.slice none 0 0, .slice none 0 0, .int .i64 0]), (bJ, mapO intR (fun n : Nat => nd (n : Int)) 0 4 (JF S c)), (bU, mapO boolR bd false (N + 2 * r) (uRun M (pS S c) (f) (q) r)), (bA, rowO 3 [.int .i64 (4 * (c : Int)), .int .i64 (q : Int)])] [⟨some ⟨bC, oC, none⟩, cC, 3, ints (mtT M (pS S c) c (4 * S.length))⟩])
                case atStart => exact ⟨0, Nat.zero_le _, rfl, by show Value.int .i64 _ = .int .i64 (((q : Nat)) : Int); go_num, Hk.out⟩
                case round =>
                  clear Hk
                  obtain ⟨r, hr, rfl, rfl, hk⟩ := hrel
                  have Hk := Lib.hid hk
                  clear hk
                  by_cases hrR : r < R
                  · obtain ⟨hfx, hmc⟩ := HRun.out.1 r hrR
                    have HFx := Lib.hid hfx
                    have hil : iter (gst M (pS S c)) r (q) < 4 * S.length := by omega
                    have Hnx : Hid (iter (gst M (pS S c)) (r + 1) (q) = mt M (jn (pS S c) (iter (gst M (pS S c)) r (q))) ∧ uRun M (pS S c) (f) (q) (r + 1) = uAdd (pS S c) (uRun M (pS S c) (f) (q) r) (iter (gst M (pS S c)) r (q))) := Lib.hid ⟨rfl, rfl⟩
                    have HJ : Hid (JF S c (iter (gst M (pS S c)) r (q)) = jn (pS S c) (iter (gst M (pS S c)) r (q))) := Lib.hid (if_pos hmc)
                    have hjl := jn_lt (p := pS S c) hil
                    have hgl := Hm.out.lt hjl
                    have Hcz : Hid (∀ W', Below w.heap.size w W' → W'.cell? ⟨bM, oM + jn (pS S c) (iter (gst M (pS S c)) r (q)), none⟩ = some (.int .i64 ((mt M (jn (pS S c) (iter (gst M (pS S c)) r (q))) : Nat) : Int))) := Lib.hid fun W' hW' => HcM.out W' hW' _ hjl
                    rw [uAdd_updN] at Hnx
                    generalize uRun M (pS S c) (f) (q) r = F at *
                    generalize iter (gst M (pS S c)) r (q) = x at *
                    clear hmc hfx
                    generalize jn (pS S c) x = y at *
                    generalize mt M y = z at *
                    go_wp2_with (first
                      | (with_reducible refine wpList_lookup_n elBool rfl 92 (.tmp 113) (.tmp 114) rfl Try.underlying92 Try.zeroValue4 bU (N + 2 * r) (x) (F) _ rfl rfl rfl (by omega) (Hk.out.nmap (k := 3) rfl) false HFx.out (.bool false) rfl ?_)
                      | (with_reducible refine wpList_store_n elBool rfl 92 (.tmp 124) (.tmp 125) (.const (.bool true)) rfl Try.underlying92 bU (N + 2 * r) (x) (F) true _ rfl rfl rfl rfl (by omega) (Hk.out.nmap (k := 3) rfl) (by omega) ?_; intro w6 hm6 ht6; have H6 := Lib.hid (Hk.out.mapTurn (k := 3) rfl hm6 ht6); clear hm6 ht6)
                      | (with_reducible refine wpList_lookup_n elNat rfl 91 (.tmp 127) (.tmp 128) rfl Try.underlying91 Try.zeroValue3 bJ 4 (x) (JF S c) _ rfl rfl rfl (by omega) (H6.out.nmap (k := 2) rfl) (y) HJ.out (.int .i64 ((y : Nat) : Int)) rfl ?_)
                      | ((with_reducible refine wpList_store_n elBool rfl 92 (.tmp 126) (.tmp 129) (.const (.bool true)) rfl Try.underlying92 bU (N + 2 * r + 1) (y) (updN F x true) true _ rfl rfl rfl rfl (by omega) (H6.out.nmap (k := 3) rfl) (by omega) ?_; intro w7 hm7 ht7; have H7 := Lib.hid (H6.out.mapTurn (k := 3) rfl hm7 ht7); clear hm7 ht7); have hb1 := H7.out.cell (k := 0) (i := 1) rfl rfl; have hcz := Hcz.out w7 H7.out.below)
                      | (with_reducible refine wpList_lookup_n elNat rfl 91 (.tmp 119) (.tmp 120) rfl Try.underlying91 Try.zeroValue3 bJ 4 (x) (JF S c) _ rfl rfl rfl (by omega) (H7.out.nmap (k := 2) rfl) (y) HJ.out (.int .i64 ((y : Nat) : Int)) rfl ?_))
                    go_roundg (R - (r + 1))
                    case measure => omega
                    case rel => exact ⟨r + 1, by omega, rfl, by rw [Hnx.out.1], by rw [Hnx.out.2]; exact H7.out⟩
                  · obtain rfl : R = r := by omega
                    obtain ⟨hfx, hmc⟩ := HRun.out.2
                    have HFx := Lib.hid hfx
                    have Hk0 := Lib.hid Hk.out
                    have hil : iter (gst M (pS S c)) R (q) < 4 * S.length := by omega
                    generalize uRun M (pS S c) (f) (q) R = F at *
                    generalize iter (gst M (pS S c)) R (q) = x at *
                    clear hmc hfx
                    go_wp2_with ((with_reducible refine wpList_lookup_n elBool rfl 92 (.tmp 113) (.tmp 114) rfl Try.underlying92 Try.zeroValue4 bU (N + 2 * R) (x) (F) _ rfl rfl rfl (by omega) (Hk.out.nmap (k := 3) rfl) true HFx.out (.bool true) rfl ?_))
                    go_roundg (2 - 2)
                    case measure => omega
                    case rel => exact ⟨2, N + 2 * R, xl + 1, F, by omega, rfl, by go_num, by go_num, by omega, by omega, fun e => absurd e (by decide), fun e => absurd e (by decide), fun _ => Hnw.out.symm, Hk0.out⟩
            · have hx := g2 rfl
              clear g0 g1 g2 hx2
              subst hx
              by_cases hfull : L + ((newL M (pS S c) c : Nat) : Int) ≤ 64
              · have ht1 : decide (64 < L + ((newL M (pS S c) c : Nat) : Int)) = false := decide_eq_false (by omega)
                have HP := Lib.hid (Hyes.out hfull)
                clear hfull Hyes Hno
                have hMT : IntsAt wr (some ⟨bC, oC, none⟩) (mtT M (pS S c) c (4 * S.length)) := (Hk.out.sl (k := 0) rfl).at
                have H128 := without_any S (mtT M (pS S c) c (4 * S.length)) (fun h => thr M (pS S c) c (mt M h)) c (L + ((newL M (pS S c) c : Nat) : Int)) (some ⟨bS, oS, none⟩) (some ⟨bC, oC, none⟩) cS cC wr hSl (by rw [mtT_len]; omega) (fun h hh hhc => ⟨nth_mtT M (pS S c) c _ h (by omega) hh hhc, thr_lt Hm.out (Hm.out.lt hh)⟩) (Hk.out.came HSM.out.1) hMT
                rw [mtT_len, woS_all S c hc, woM_all S M c hc] at H128
                have H128 := Lib.hid H128
                clear hMT
                generalize ((newL M (pS S c) c : Nat) : Int) = nl at *
                have hc0 := Hk.out.cell (k := 0) (i := 0) rfl rfl
                have hc1 := Hk.out.cell (k := 0) (i := 1) rfl rfl
                have hc2 := Hk.out.cell (k := 0) (i := 2) rfl rfl
                go_wp2_with fail
                refine H128.out.mono ?_
                rintro e w8 ⟨ra, rb, rc, rd, rfl, hO1, hO2, hb8⟩
                have H8 := Hk.out.call hb8
                have hlo := (Hk.out.obj (k := 1) rfl).2.1
                have H9 := ((H8.set (k := 1) rfl 0 (.slice ra (smS S c).length rc)).set (k := 1) rfl 1 (.slice rb (smM S M c).length rd)).set (k := 1) rfl 2 (.int .i64 (L + nl))
                have hrw := H8.row (k := 1) rfl
                have Hfin := Lib.hid (And.intro ((((hO1.mono Hk.out.below.size).setOther hrw (by decide) 0 (.slice ra (smS S c).length rc)).setOther (hrw.set 0 _) (by decide) 1 (.slice rb (smM S M c).length rd)).setOther ((hrw.set 0 _).set 1 _) (by decide) 2 (.int .i64 (L + nl))) (And.intro ((((hO2.mono Hk.out.below.size).setOther hrw (by decide) 0 (.slice ra (smS S c).length rc)).setOther (hrw.set 0 _) (by decide) 1 (.slice rb (smM S M c).length rd)).setOther ((hrw.set 0 _).set 1 _) (by decide) 2 (.int .i64 (L + nl))) H9.below))
                have hF0 := H9.cell (k := 1) (i := 0) rfl rfl
                have hF1 := H9.cell (k := 1) (i := 1) rfl rfl
                have hF2 := H9.cell (k := 1) (i := 2) rfl rfl
                have hd0 := H8.cell (k := 1) (i := 0) rfl rfl
                have hd1 := H8.cell (k := 1) (i := 1) rfl rfl
                have hd2 := H8.cell (k := 1) (i := 2) rfl rfl
                have hf0 := H8.frozen (k := 1) rfl 0
                have hf1 := H8.frozen (k := 1) rfl 1
                have hf2 := H8.frozen (k := 1) rfl 2
                clear hc0 hc1 hc2 hO1 hO2 hb8 hrw H8 H9 hlo
                go_wp2_with fail
                refine bodyPost_ret (v := .tuple #[.agg #[.slice ra (smS S c).length rc, .slice rb (smM S M c).length rd, .int .i64 (L + nl)], .int .i64 0]) (by simp [results, Try.results57, go_sem, hF0, hF1, hF2]) rfl ?_
                exact HP.out _ _ ⟨ra, rb, rc, rd, rfl, Hfin.out⟩
              · have ht1 : decide (64 < L + ((newL M (pS S c) c : Nat) : Int)) = true := decide_eq_true (by omega)
                have HP := Lib.hid (Hno.out (by omega))
                clear hfull Hyes Hno
                generalize ((newL M (pS S c) c : Nat) : Int) = nl at *
                have H8 := Hk.out
                have H9 := ((H8.set (k := 1) rfl 0 (.slice none 0 0)).set (k := 1) rfl 1 (.slice none 0 0)).set (k := 1) rfl 2 (.int .i64 0)
                have hF0 := H9.cell (k := 1) (i := 0) rfl rfl
                have hF1 := H9.cell (k := 1) (i := 1) rfl rfl
                have hF2 := H9.cell (k := 1) (i := 2) rfl rfl
                have hd0 := H8.cell (k := 1) (i := 0) rfl rfl
                have hd1 := H8.cell (k := 1) (i := 1) rfl rfl
                have hd2 := H8.cell (k := 1) (i := 2) rfl rfl
                have hf0 := H8.frozen (k := 1) rfl 0
                have hf1 := H8.frozen (k := 1) rfl 1
                have hf2 := H8.frozen (k := 1) rfl 2
                have Hfin := Lib.hid H9.below
                clear H8 H9
                go_wp2_with fail
                refine bodyPost_ret (v := .tuple #[.agg #[.slice none 0 0, .slice none 0 0, .int .i64 0], .int .i64 5]) (by simp [results, Try.results57, go_sem, hF0, hF1, hF2]) rfl ?_
                exact HP.out _ _ ⟨none, none, 0, 0, rfl, Own.nil _ _ _, Own.nil _ _ _, Hfin.out⟩
theorem smooth_yes (S M : List Int) (L : Int) (aS aM : Option Addr) (cS cM c : Nat) (w : World) (Post : Ending → World → Prop) (hyes : L + (newL M (pS S c) c : Nat) ≤ 64 → ∀ e w', DgR w (smS S c) (smM S M c) (L + (newL M (pS S c) c : Nat)) 0 e w' → Post e w') (hno : ¬ L + (newL M (pS S c) c : Nat) ≤ 64 → ∀ e w', DgR w [] [] 0 5 e w' → Post e w') (hv : vldB S M L = true) (hc : c < S.length) (hS : IntsAt w aS S) (hM : IntsAt w aM M) :
    Calls Try.prog 57 #[.agg #[.slice aS S.length cS, .slice aM M.length cM, .int .i64 L], .int .i64 (c : Int)] w Post :=
  smooth_own S M L aS aM cS cM c w Post (fun h e w' g => hyes h e w' g.toR) (fun h e w' g => hno h e w' g.toR) hv hc hS hM
end Go.Proofs.Ytkopbcehfbmnmaa
