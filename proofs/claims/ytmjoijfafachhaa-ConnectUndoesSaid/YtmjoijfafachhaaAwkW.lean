/- The example of the chapter, walked: awake of law07. -/
import Derived.Test.YtmjoijfafachhaaPrmP
import Derived.Test.YtmjoijfafachhaaNugP
import Derived.Test.YtmjoijfafachhaaSumC
import Derived.Test.YtmjoijfafachhaaFtsW
import Derived.Test.YtmjoijfafachhaaNugW
import Derived.Test.YtmjoijfafachhaaConM
namespace Go.Proofs.Ytmjoijfafachhaa
open Go Go.RowKit
def kS : List Int := [1]
def kM : List Int := [1, 0, 3, 2]
def tS : List Int := [1, 1]
def tM : List Int := [5, 4, 3, 2, 1, 0, 7, 6]
theorem kink_valid : vldB kS kM 0 = true := by decide +kernel
theorem two_valid : vldB tS tM 0 = true := by decide +kernel
theorem kink_out : outB kS 1 = true := by decide +kernel
theorem two_is : crossL (uniM kM kM) 1 (kM.length + 1) = tM := by decide +kernel
theorem two_cuts : cutsL tS tM = [(1, 5)] := by decide +kernel
theorem kink_cuts : cutsL kS kM = [] := by decide +kernel
theorem back_is : crossL tM 1 5 = [1, 0, 3, 2, 5, 4, 7, 6] := by decide +kernel
theorem grp_two : grpOf tM tS.length = [[0, 1]] := by
  rw [← rgroups_eq (vldB_shape two_valid).mates]
  decide +kernel
theorem back_valid : vldB tS [1, 0, 3, 2, 5, 4, 7, 6] 0 = true := by decide +kernel
theorem grp_back : grpOf [1, 0, 3, 2, 5, 4, 7, 6] tS.length = [[0], [1]] := by
  rw [← rgroups_eq (vldB_shape back_valid).mates]
  decide +kernel
theorem cls_back (c : Nat) (hc : c < tS.length) : clsN [1, 0, 3, 2, 5, 4, 7, 6] tS.length c = [c] := by
  have h := grp_has (vldB_shape back_valid).mates c hc
  rw [grp_back] at h
  have hs : c ∈ clsN [1, 0, 3, 2, 5, 4, 7, 6] tS.length c := cls_self hc
  have hc2 : c < 2 := hc
  simp only [List.mem_cons, List.not_mem_nil, or_false] at h
  rcases h with h | h
  · rw [h] at hs ⊢
    have : c = 0 := List.mem_singleton.1 hs
    rw [this]
  · rw [h] at hs ⊢
    have : c = 1 := List.mem_singleton.1 hs
    rw [this]
theorem facA_two : facA tS tM 1 5 = (kS, kM, 0) := by
  unfold facA ptD
  rw [back_is, show 1 / 4 = 0 from rfl, cls_back 0 (by decide)]
  decide +kernel
theorem facB_two : facB tS tM 1 5 = (kS, kM, 0) := by
  unfold facB ptD
  rw [back_is, show 5 / 4 = 1 from rfl, cls_back 1 (by decide)]
  decide +kernel
theorem split_two : splitL tS tM 0 = [(tS, tM, 0)] := by
  unfold splitL
  rw [grp_two]
  decide +kernel
theorem factors_two : factorsL tS tM 0 = [(kS, kM, 0), (kS, kM, 0)] := by
  unfold factorsL primesL
  rw [split_two]
  show primeL tS tM 0 ++ [] = _
  rw [primeL_cons two_valid two_cuts, facA_two, facB_two, List.append_nil]
  show primeL kS kM 0 ++ primeL kS kM 0 = _
  rw [primeL_none kink_cuts]; rfl
theorem nug_kink : nugL kS kM = [0] := by
  have h : nugB (leftL kM kS.length) 0 = true := by
    rw [nugB_iff]
    decide +kernel
  show nugTo (leftL kM kS.length) (0 + 1) = [0]
  rw [nugTo_yes h]; rfl
theorem sEq_any (xs ys : List Int) (a b : Option Addr) (c d : Nat) (w : World) (hx : xs.length ≤ 1000000000) (hA : IntsAt w a xs) (hB : IntsAt w b ys) :
    Calls Try.prog 39 #[.slice a xs.length c, .slice b ys.length d] w fun e w' => e = .returned (.bool (decide (xs = ys))) ∧ Below w.heap.size w w' := by
  by_cases hl : xs.length = ys.length
  · rcases Nat.eq_zero_or_pos xs.length with h0 | h0
    · rw [h0]
      refine (Try.slices_Equal_int_empty a b c ys.length d w (by omega)).mono ?_
      rintro e w' ⟨rfl, rfl⟩
      obtain rfl := List.eq_nil_of_length_eq_zero h0
      obtain rfl := List.eq_nil_of_length_eq_zero (show ys.length = 0 by omega)
      exact ⟨rfl, Below.refl _ _⟩
    · obtain ⟨b1, o1, rfl, _, h1⟩ := hA.open h0
      obtain ⟨b2, o2, rfl, _, h2⟩ := hB.open (by omega)
      refine (Try.slices_Equal_int b1 o1 xs.length c b2 o2 ys.length d xs ys w (Nat.le_refl _) (Nat.le_refl _) (by omega) (by omega) h1 h2).mono ?_
      rintro e w' ⟨rfl, q, rfl⟩
      rw [List.take_of_length_le (Nat.le_refl _), List.take_of_length_le (Nat.le_refl _)]
      refine ⟨ret_bool ?_, below_drewNN (Below.refl _ _) q⟩
      by_cases e : xs = ys <;> simp [e]
  · refine (Try.slices_Equal_int_lens a b xs.length c ys.length d w hl).mono ?_
    rintro e w' ⟨rfl, rfl⟩
    exact ⟨ret_bool (decide_eq_false fun e => hl (by rw [e])).symm, Below.refl _ _⟩
set_option maxRecDepth 100000 in
set_option maxHeartbeats 2000000 in
theorem kink_any (w : World) : Calls Try.prog 47 #[] w fun e w' => ∃ a b c d, e = .returned (.agg #[.slice a 1 c, .slice b 4 d, .int .i64 0]) ∧ Own w' w.heap.size 3 a c (ints kS) ∧ Own w' w.heap.size 3 b d (ints kM) ∧ Below w.heap.size w w' := by
  have H9 := Lib.hid ((((HH.start w).alloc #[.slice (some ⟨w.heap.size + 1, 0, none⟩) 1 1, .slice (some ⟨w.heap.size + 1 + 1, 0, none⟩) 4 4, .int .i64 0] 24 rfl rfl).alloc #[.int .i64 1] 3 (b := w.heap.size + 1) (by simp) rfl).alloc #[.int .i64 1, .int .i64 0, .int .i64 3, .int .i64 2] 3 (b := w.heap.size + 1 + 1) (by simp) rfl)
  have hF0 := H9.out.cell (k := 0) (i := 0) rfl rfl
  have hF1 := H9.out.cell (k := 0) (i := 1) rfl rfl
  have hF2 := H9.out.cell (k := 0) (i := 2) rfl rfl
  have H8 := Lib.hid (And.intro hF0 (And.intro hF1 hF2))
  clear hF0 hF1 hF2
  go_enter Try.func47, Try.ntmps47
  go_wp2_with fail
  obtain ⟨hF0, hF1, hF2⟩ := H8.out
  refine bodyPost_ret (v := .agg #[.slice (some ⟨w.heap.size + 1, 0, none⟩) 1 1, .slice (some ⟨w.heap.size + 1 + 1, 0, none⟩) 4 4, .int .i64 0]) (by simp [results, Try.results47, go_sem, hF0, hF1, hF2]) rfl ?_
  exact ⟨_, _, 1, 4, rfl, (H9.out.row (k := 1) rfl).own (Nat.le_add_right _ 1), (H9.out.row (k := 2) rfl).own (Nat.le_add_right _ 2), H9.out.below⟩
set_option maxRecDepth 100000 in
set_option maxHeartbeats 4000000 in
theorem awake_any (w : World) : Calls Try.prog 12 #[] w fun e w' => e = .returned (.bool true) ∧ Below w.heap.size w w' := by
  have HK : Hid (∀ W', Calls Try.prog 47 #[] W' fun e w' => ∃ a b c d, e = .returned (.agg #[.slice a 1 c, .slice b 4 d, .int .i64 0]) ∧ Own w' W'.heap.size 3 a c (ints kS) ∧ Own w' W'.heap.size 3 b d (ints kM) ∧ Below W'.heap.size W' w') := Lib.hid kink_any
  have HS : Hid (∀ W' a b c d a' b' c' d', IntsAt W' a kS → IntsAt W' b kM → IntsAt W' a' kS → IntsAt W' b' kM → Calls Try.prog 32 #[.agg #[.slice a 1 c, .slice b 4 d, .int .i64 0], .int .i64 1, .agg #[.slice a' 1 c', .slice b' 4 d', .int .i64 0], .int .i64 1] W' fun e w' => ∃ a b c d, e = .returned (.tuple #[.agg #[.slice a 2 c, .slice b 8 d, .int .i64 0], .int .i64 0]) ∧ Own w' W'.heap.size 3 a c (ints tS) ∧ Own w' W'.heap.size 3 b d (ints tM) ∧ Below W'.heap.size W' w') := Lib.hid fun W' a b c d a' b' c' d' h1 h2 h3 h4 => by
    have g := sum_yes kS kM kS kM 0 0 a b a' b' c d c' d' 1 1 W' kink_valid kink_valid (by decide) (by decide) kink_out kink_out (by decide) (by decide) h1 h2 h3 h4
    rw [two_is] at g
    exact g
  have HC : Hid (∀ W' a b c d, IntsAt W' a tS → IntsAt W' b tM → Calls Try.prog 27 #[.agg #[.slice a 2 c, .slice b 8 d, .int .i64 0]] W' fun e w' => ∃ A C, e = .returned (.slice A 1 C) ∧ Own w' W'.heap.size 45 A (C * 2) [.int .i64 1, .int .i64 5] ∧ Below W'.heap.size W' w') := Lib.hid fun W' a b c d h1 h2 => by
    refine (cuts_yes tS tM 0 a b c d W' two_valid h1 h2).mono ?_
    rintro e w' ⟨A, C, rfl, _, ho, hb⟩
    rw [two_cuts] at ho ⊢
    exact ⟨A, C, rfl, ho, hb⟩
  have HE : Hid (∀ W' a b c d, IntsAt W' a tM → IntsAt W' b tM → Calls Try.prog 39 #[.slice a 8 c, .slice b 8 d] W' fun e w' => e = .returned (.bool true) ∧ Below W'.heap.size W' w') := Lib.hid fun W' a b c d h1 h2 => by
    have g := sEq_any tM tM a b c d W' (by decide) h1 h2
    rw [decide_eq_true rfl] at g
    exact g
  have HF : Hid (∀ W' a b c d, IntsAt W' a tS → IntsAt W' b tM → Calls Try.prog 33 #[.agg #[.slice a 2 c, .slice b 8 d, .int .i64 0]] W' fun e w' => ∃ A C, e = .returned (.slice A 2 C) ∧ Below W'.heap.size W' w') := Lib.hid fun W' a b c d h1 h2 => by
    refine (factors_yes tS tM 0 a b c d W' 0 (Nat.zero_le _) two_valid h1 h2).mono ?_
    rintro e w' ⟨A, C, rfl, _, hb⟩
    rw [factors_two]
    exact ⟨A, C, rfl, hb⟩
  have HN : Hid (∀ W' a b c d, IntsAt W' a kS → IntsAt W' b kM → Calls Try.prog 35 #[.agg #[.slice a 1 c, .slice b 4 d, .int .i64 0]] W' fun e w' => ∃ A C, e = .returned (.slice A 1 C) ∧ Own w' W'.heap.size 3 A C (ints [0]) ∧ Below W'.heap.size W' w') := Lib.hid fun W' a b c d h1 h2 => by
    refine (nugatory_yes kS kM 0 a b c d W' kink_valid h1 h2).mono ?_
    rintro e w' ⟨A, C, rfl, ho, hb⟩
    rw [nug_kink] at ho ⊢
    exact ⟨A, C, rfl, ho, hb⟩
  have HG : Hid (∀ W' a b c d, IntsAt W' a [0] → IntsAt W' b [0] → Calls Try.prog 39 #[.slice a 1 c, .slice b 1 d] W' fun e w' => e = .returned (.bool true) ∧ Below W'.heap.size W' w') := Lib.hid fun W' a b c d h1 h2 => by
    have g := sEq_any [0] [0] a b c d W' (by decide) h1 h2
    rw [decide_eq_true rfl] at g
    exact g
  have H0 := Lib.hid (HH.start w)
  go_enter Try.func12, Try.ntmps12
  go_wp2_with fail
  refine (HK.out _).mono ?_
  rintro e w1 ⟨aK, bK, cK, dK, rfl, ho1, ho2, hb⟩
  have H1 := Lib.hid (H0.out.call hb)
  have O1 := Lib.hid (And.intro ho1.ints ho2.ints)
  clear ho1 ho2 hb H0
  go_wp2_with fail
  refine (HK.out _).mono ?_
  rintro e w2 ⟨aJ, bJ, cJ, dJ, rfl, ho1, ho2, hb⟩
  have H2 := Lib.hid (H1.out.call hb)
  have O2 := Lib.hid (And.intro (And.intro (O1.out.1.later hb) (O1.out.2.later hb)) (And.intro ho1.ints ho2.ints))
  clear ho1 ho2 hb H1 O1
  go_wp2_with fail
  refine (HS.out _ aK bK cK dK aJ bJ cJ dJ O2.out.1.1 O2.out.1.2 O2.out.2.1 O2.out.2.2).mono ?_
  rintro e w3 ⟨aT, bT, cT, dT, rfl, ho1, ho2, hb⟩
  have H3 := Lib.hid (H2.out.call hb)
  have B3 : Hid (Below w.heap.size w (w3.alloc (.cells #[.slice aT 2 cT, .slice bT 8 dT, .int .i64 0] 24))) := Lib.hid (H3.out.below.alloc H3.out.below.size _)
  have H4 := Lib.hid ((HH.start (w3.alloc (.cells #[.slice aT 2 cT, .slice bT 8 dT, .int .i64 0] 24))))
  have O4 : Hid (∀ W', Below (w3.alloc (.cells #[.slice aT 2 cT, .slice bT 8 dT, .int .i64 0] 24)).heap.size (w3.alloc (.cells #[.slice aT 2 cT, .slice bT 8 dT, .int .i64 0] 24)) W' → (IntsAt W' aT tS ∧ IntsAt W' bT tM) ∧ W'.cell? ⟨w3.heap.size, 0, none⟩ = some (.slice aT 2 cT) ∧ W'.cell? ⟨w3.heap.size, 1, none⟩ = some (.slice bT 8 dT) ∧ W'.cell? ⟨w3.heap.size, 2, none⟩ = some (.int .i64 0)) := Lib.hid fun W' h => by
    have hr := (Row.new w3 #[.slice aT 2 cT, .slice bT 8 dT, .int .i64 0] 24).later h (by simp)
    exact ⟨⟨(ho1.alloc _).ints.later h, (ho2.alloc _).ints.later h⟩, hr.cell 0, hr.cell 1, hr.cell 2⟩
  clear ho1 ho2 hb H2 O2 H3
  go_upto_region 2 with fail
  generalize w3.alloc (.cells #[.slice aT 2 cT, .slice bT 8 dT, .int .i64 0] 24) = v3 at *
  generalize w3.heap.size = q at *
  obtain ⟨_, k0, k1, k2⟩ := O4.out v3 (Below.refl _ _)
  go_wp2_with fail
  refine (HC.out _ aT bT cT dT (O4.out v3 (Below.refl _ _)).1.1 (O4.out v3 (Below.refl _ _)).1.2).mono ?_
  rintro e w5 ⟨A5, C5, rfl, ho, hb⟩
  have H5 := Lib.hid (H4.out.addSl hb ho)
  clear ho hb H4 k0 k1 k2
  obtain ⟨_, k0, k1, k2⟩ := O4.out _ H5.out.below
  go_wp2_with fail
  have H6 := Lib.hid (H5.out.alloc #[.int .i64 5, .int .i64 4, .int .i64 3, .int .i64 2, .int .i64 1, .int .i64 0, .int .i64 7, .int .i64 6] 3 (b := w5.heap.size) rfl rfl)
  refine (HE.out _ bT (some ⟨w5.heap.size, 0, none⟩) dT 8 (O4.out _ H6.out.below).1.2 (H6.out.row (k := 0) rfl).at).mono ?_
  rintro e w7 ⟨rfl, hb⟩
  have H7 := Lib.hid (H6.out.call hb)
  clear hb H6 H5 k0 k1 k2
  obtain ⟨_, k0, k1, k2⟩ := O4.out _ H7.out.below
  obtain ⟨b5, o5, rfl, _, _, hcc, _⟩ := (H7.out.sl (k := 0) rfl).open (by show 0 < 2; omega)
  have hcc : ∀ i v, ([.int .i64 1, .int .i64 5] : List Value)[i]? = some v → w7.cell? ⟨b5, o5 + i, none⟩ = some v := hcc
  have c0 : w7.cell? ⟨b5, o5, none⟩ = some (.int .i64 1) := hcc 0 _ rfl
  have c1 : w7.cell? ⟨b5, o5 + 1, none⟩ = some (.int .i64 5) := hcc 1 _ rfl
  clear hcc
  have he := run_eqPair 1 5 1 5
  go_wp2_with fail
  refine (HF.out _ aT bT cT dT (O4.out _ H7.out.below).1.1 (O4.out _ H7.out.below).1.2).mono ?_
  rintro e w8 ⟨A8, C8, rfl, hb⟩
  have H8 := Lib.hid (H7.out.call hb)
  clear hb H7 k0 k1 k2 c0 c1 he
  go_wp2_with fail
  refine (HK.out _).mono ?_
  rintro e w9 ⟨aK, bK, cK, dK, rfl, ho1, ho2, hb⟩
  have H9 := Lib.hid (H8.out.call hb)
  have O9 := Lib.hid (And.intro ho1.ints ho2.ints)
  clear ho1 ho2 hb H8
  go_wp2_with fail
  refine (HN.out _ aK bK cK dK O9.out.1 O9.out.2).mono ?_
  rintro e w10 ⟨A9, C9, rfl, ho, hb⟩
  have H10 := Lib.hid (H9.out.addSl hb ho)
  clear ho hb H9 O9
  go_wp2_with fail
  have H11 := Lib.hid (H10.out.alloc #[.int .i64 0] 3 (b := w10.heap.size) rfl rfl)
  refine (HG.out _ A9 (some ⟨w10.heap.size, 0, none⟩) C9 1 (H11.out.sl (k := 1) rfl).ints (H11.out.row (k := 1) rfl).at).mono ?_
  rintro e w12 ⟨rfl, hb⟩
  have H12 := Lib.hid (H11.out.call hb)
  clear hb H11 H10
  go_wp2_with fail
  go_ret
  exact ⟨rfl, below_step B3.out H12.out.below⟩
end Go.Proofs.Ytmjoijfafachhaa
