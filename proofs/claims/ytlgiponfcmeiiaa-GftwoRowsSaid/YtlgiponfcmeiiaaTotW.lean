/- The walk of gftwo.total: the sum of those rows that a list names. -/
import Derived.Test.YtlgiponfcmeiiaaAddW
namespace Go.Proofs.Ytlgiponfcmeiiaa
open Go Go.RowKit
/-- The sum of the rows that the list names. -/
def sumI (xs : List Nat) (js : List Int) : Nat := xors (js.map fun j => xs.getD j.toNat 0)
theorem getD_lt {C : Nat} {xs : List Nat} (h : ∀ x ∈ xs, x < 2 ^ C) (i : Nat) : xs.getD i 0 < 2 ^ C := by
  rw [List.getD_eq_getElem?_getD]
  rcases Nat.lt_or_ge i xs.length with g | g
  · rw [List.getElem?_eq_getElem g]; exact h _ (List.getElem_mem g)
  · rw [List.getElem?_eq_none g]; exact Nat.two_pow_pos C
theorem sumI_lt {C : Nat} {xs : List Nat} (h : ∀ x ∈ xs, x < 2 ^ C) (js : List Int) : sumI xs js < 2 ^ C := xors_lt fun x hx => by
  obtain ⟨j, _, rfl⟩ := List.mem_map.1 hx
  exact getD_lt h _
theorem sumI_split (xs : List Nat) (js : List Int) (h : Nat) : sumI xs (js.take h) ^^^ sumI xs (js.drop h) = sumI xs js := by
  unfold sumI
  rw [← xors_append, ← List.map_append, List.take_append_drop]
/-- A table of rows by their numbers. -/
def tabN (C : Nat) (xs : List Nat) : List (List Int) := xs.map (rowOf C)
theorem tabN_len (C : Nat) (xs : List Nat) : (tabN C xs).length = xs.length := by simp [tabN]
theorem tabN_get {C : Nat} {xs : List Nat} {i : Nat} (hi : i < xs.length) : (tabN C xs)[i]? = some (rowOf C (xs.getD i 0)) := by simp [tabN, hi]
set_option maxRecDepth 100000 in
set_option maxHeartbeats 8000000 in
theorem total_any (C : Nat) (xs : List Nat) (hx : ∀ x ∈ xs, x < 2 ^ C) (hC : C ≤ 65536) (hxl : xs.length ≤ 1000000) : ∀ (n : Nat) (js : List Int) (a b : Option Addr) (c d : Nat) (w : World), js.length ≤ n → js.length ≤ 1000000 → js.length ≤ d → (∀ j ∈ js, 0 ≤ j ∧ j < xs.length) → TabAt w a (tabN C xs) → IntsAt w b js →
    Calls Try.prog 28 #[.slice a xs.length c, .slice b js.length d] w fun e w' => ∃ A E, e = .returned (.slice A (rowOf C (sumI xs js)).length E) ∧ Own w' w.heap.size 3 A E (ints (rowOf C (sumI xs js))) ∧ Below w.heap.size w w' := by
  intro n
  induction n with
  | zero =>
    intro js a b c d w hn _ _ _ _ _
    obtain rfl : js = [] := List.eq_nil_of_length_eq_zero (by omega)
    have hr : rowOf C (sumI xs []) = [] := rowOf_zero C
    rw [hr]
    clear hr
    go_enter Try.func28, Try.ntmps28
    go_wp2_with fail
    go_ret
    exact ⟨none, 0, rfl, Own.nil _ _ _, Below.refl _ _⟩
  | succ n ih =>
    intro js a b c d w hn hjl hjd hj hT hJ
    rcases Nat.lt_or_ge js.length 2 with hlt | hge
    · rcases Nat.eq_zero_or_pos js.length with h0 | h0
      · obtain rfl : js = [] := List.eq_nil_of_length_eq_zero (by omega)
        have hr : rowOf C (sumI xs []) = [] := rowOf_zero C
        rw [hr]
        clear hr ih hT hJ hj
        go_enter Try.func28, Try.ntmps28
        go_wp2_with fail
        go_ret
        exact ⟨none, 0, rfl, Own.nil _ _ _, Below.refl _ _⟩
      · obtain ⟨j, rfl⟩ : ∃ j, js = [j] := by
          cases js with
          | nil => simp at h0
          | cons j l => cases l with
            | nil => exact ⟨j, rfl⟩
            | cons k l => simp only [List.length_cons] at hlt; omega
        have hj0 := hj j List.mem_cons_self
        obtain ⟨k, rfl⟩ : ∃ k : Nat, j = (k : Int) := ⟨j.toNat, by omega⟩
        have hk : k < xs.length := by omega
        obtain ⟨b1, o1, rfl, _, hcJ⟩ := hJ.open (by simp)
        have hc1 := hcJ 0 (by simp)
        rw [Nat.add_zero, show nth [(k : Int)] 0 = (k : Int) from rfl] at hc1
        obtain ⟨b2, o2, rfl, _, hcT⟩ := hT.open (by rw [tabN_len]; omega)
        obtain ⟨a2, c2, hc2, hl2, hI⟩ := hcT k _ (tabN_get hk)
        have hs : sumI xs [(k : Int)] = xs.getD k 0 := by simp [sumI, xors]
        rw [hs]
        generalize hR : rowOf C (xs.getD k 0) = R at *
        have hRl : R.length ≤ 65536 := by rw [← hR]; exact Nat.le_trans (rowOf_len _ _) hC
        obtain ⟨i0, hi, hz0, hz1, hz2⟩ := info_parts Try.info3
        obtain ⟨A, E, w2, hr1, ho1, ht1, _⟩ := run_append_many (P := Try.prog) w w.heap.size 36 36 36 3 i0 (.int .i64 0) 8 Try.underlying36 Try.underlying36 hi hz0 hz1 hz2 rfl none 0 [] (Own.nil _ _ _) a2 c2 (ints R) hI (ints_one _) (by rw [ints_length, List.length_nil]; omega) (by rw [ints_length, List.length_nil]; omega) (Nat.le_refl _)
        rw [ints_length, List.length_nil, Nat.zero_add, List.nil_append] at *
        have Hr1 := Lib.hid hr1
        have Ho1 := Lib.hid (And.intro ho1 (ht1.below (Nat.le_refl _) (fun x hx => by cases hx)))
        clear hr1 ho1 ht1 hI hT hJ hcJ hcT hx hj hs hR ih hi hz0 hz1 hz2 hj0 hl2
        go_enter Try.func28, Try.ntmps28
        go_wp2_with (refine wpList_append_run rfl (.const (.slice none 0 0)) (.tmp 17) #[36, 36] rfl (.slice none 0 0) (.slice a2 R.length c2) _ _ rfl rfl Hr1.out ?_)
        go_ret
        exact ⟨A, E, rfl, Ho1.out.1, Ho1.out.2⟩
    · obtain ⟨h, hh⟩ : ∃ h : Nat, h = js.length / 2 := ⟨_, rfl⟩
      have hbd : h ≤ 1000000 := by omega
      have h1 : 1 ≤ h := by omega
      have h2 : h < js.length := by omega
      have hq : (js.length : Int).tdiv 2 = (h : Int) := by rw [Int.tdiv_eq_ediv_of_nonneg (by omega)]; omega
      obtain ⟨i0, hi, hz0, hz1, hz2⟩ := info_parts Try.info3
      have hsl1 : ∀ W, (Instr.slice 36 (.slice b js.length d) none (some (.int .i64 (h : Int))) none).run Try.prog W = .ok (.slice (toA b d) h d) W := fun W => run_to' Try.underlying36 hi hz1 b js.length d h (by omega) W
      have hsl2 : ∀ W, (Instr.slice 36 (.slice b js.length d) (some (.int .i64 (h : Int))) none none).run Try.prog W = .ok (.slice (fromA b h d) (js.length - h) (d - h)) W := fun W => run_from' Try.underlying36 hi hz1 b js.length d h (by omega) W
      have lt : (js.take h).length = h := by rw [List.length_take]; omega
      have ld : (js.drop h).length = js.length - h := List.length_drop
      obtain ⟨R1, hR1⟩ : ∃ R, R = rowOf C (sumI xs (js.take h)) := ⟨_, rfl⟩
      obtain ⟨R2, hR2⟩ : ∃ R, R = rowOf C (sumI xs (js.drop h)) := ⟨_, rfl⟩
      obtain ⟨R, hR⟩ : ∃ R, R = rowOf C (sumI xs js) := ⟨_, rfl⟩
      have hR12 : addL R1 R2 = R := by rw [hR1, hR2, addL_row (sumI_lt hx _) (sumI_lt hx _), sumI_split, hR]
      have hl1 : R1.length ≤ 65536 := by rw [hR1]; exact Nat.le_trans (rowOf_len _ _) hC
      have hl2 : R2.length ≤ 65536 := by rw [hR2]; exact Nat.le_trans (rowOf_len _ _) hC
      have HT1 : Hid (∀ W', Below w.heap.size w W' → Calls Try.prog 28 #[.slice a xs.length c, .slice (toA b d) h d] W' fun e w' => ∃ A E, e = .returned (.slice A R1.length E) ∧ (IntsAt w' A R1 ∧ R1.length ≤ E) ∧ Below W'.heap.size W' w') := Lib.hid fun W' hW' => by
        have := ih (js.take h) a (toA b d) c d W' (by omega) (by omega) (by omega) (fun j hm => hj j (List.mem_of_mem_take hm)) (hT.later hW') (hJ.later hW').to
        rw [lt, ← hR1] at this
        refine this.mono ?_
        rintro e w' ⟨A, E, he, ho, hb⟩
        have hsz := ho.size
        rw [ints_length] at hsz
        exact ⟨A, E, he, ⟨ho.ints, hsz⟩, hb⟩
      have HT2 : Hid (∀ W', Below w.heap.size w W' → Calls Try.prog 28 #[.slice a xs.length c, .slice (fromA b h d) (js.length - h) (d - h)] W' fun e w' => ∃ A E, e = .returned (.slice A R2.length E) ∧ (IntsAt w' A R2 ∧ R2.length ≤ E) ∧ Below W'.heap.size W' w') := Lib.hid fun W' hW' => by
        have := ih (js.drop h) a (fromA b h d) c (d - h) W' (by omega) (by omega) (by omega) (fun j hm => hj j (List.mem_of_mem_drop hm)) (hT.later hW') ((hJ.later hW').from hjd)
        rw [ld, ← hR2] at this
        refine this.mono ?_
        rintro e w' ⟨A, E, he, ho, hb⟩
        have hsz := ho.size
        rw [ints_length] at hsz
        exact ⟨A, E, he, ⟨ho.ints, hsz⟩, hb⟩
      have HA : Hid (∀ (A1 A2 : Option Addr) (E1 E2 : Nat) (W' : World), Below w.heap.size w W' → IntsAt W' A1 R1 ∧ R1.length ≤ E1 → IntsAt W' A2 R2 ∧ R2.length ≤ E2 → Calls Try.prog 27 #[.slice A1 R1.length E1, .slice A2 R2.length E2] W' fun e w' => ∃ A E, e = .returned (.slice A R.length E) ∧ Own w' w.heap.size 3 A E (ints R) ∧ Below w.heap.size w w') := Lib.hid fun A1 A2 E1 E2 W' hW' g1 g2 => by
        have := add_any R1 R2 A1 A2 E1 E2 W' g1.2 g2.2 (by omega) (by omega) g1.1 g2.1
        rw [hR12] at this
        refine this.mono ?_
        rintro e w' ⟨A, E, he, ho, hb⟩
        exact ⟨A, E, he, ho.mono hW'.size, below_of hW' hb hW'.size⟩
      rw [← hR]
      have hn0 : ((js.length : Int) == 0) = false := by rw [beq_eq_false_iff_ne]; omega
      have hn1 : ((js.length : Int) == 1) = false := by rw [beq_eq_false_iff_ne]; omega
      have hm0 : ¬ (js.length : Int) = 0 := by omega
      have hm1 : ¬ (js.length : Int) = 1 := by omega
      clear ih hT hJ hj hx hR1 hR2 hR hR12 hz0 hz1 hz2 hi lt ld hh hl1 hl2 hn h1 h2
      go_enter Try.func28, Try.ntmps28
      go_upto_region 7 with fail
      have Hr := Lib.hid ((Below.refl w.heap.size w).drew)
      go_region_with (first
        | ((with_reducible refine (HT1.out _ Hr.out).mono ?_); rintro e wn ⟨A1, E1, rfl, ho1, hb1⟩; have Ho1 := Lib.hid ho1; (try replace Ho2 := Lib.hid (And.intro (Ho2.out.1.later hb1) Ho2.out.2)); replace Hr := Lib.hid (below_of Hr.out hb1 Hr.out.size); clear ho1 hb1)
        | ((with_reducible refine (HT2.out _ Hr.out).mono ?_); rintro e wn ⟨A2, E2, rfl, ho2, hb2⟩; have Ho2 := Lib.hid ho2; (try replace Ho1 := Lib.hid (And.intro (Ho1.out.1.later hb2) Ho1.out.2)); replace Hr := Lib.hid (below_of Hr.out hb2 Hr.out.size); clear ho2 hb2)
        | ((with_reducible refine (HA.out _ _ _ _ _ Hr.out Ho1.out Ho2.out).mono ?_); rintro e wn ⟨A3, E3, rfl, ho3, hb3⟩; have Ho3 := Lib.hid ho3; replace Hr := Lib.hid hb3; clear ho3 hb3))
      all_goals
        go_wp2_with fail
        go_ret
        exact ⟨A3, E3, rfl, Ho3.out, Hr.out⟩
end Go.Proofs.Ytlgiponfcmeiiaa
