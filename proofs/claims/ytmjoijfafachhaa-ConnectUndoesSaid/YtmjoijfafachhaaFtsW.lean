/- connect.Factors: the prime factors of all parts. -/
import Derived.Test.YtmjoijfafachhaaPrmW
namespace Go.Proofs.Ytmjoijfafachhaa
open Go Go.RowKit
theorem split_valid {S M : List Int} {L : Int} (hv : vldB S M L = true) : ∀ d ∈ splitL S M L, vldB d.1 d.2.1 d.2.2 = true := fun d hd => by
  unfold splitL at hd
  rcases List.mem_append.1 hd with h | h
  · obtain ⟨G, hG, rfl⟩ := List.mem_map.1 h
    exact part_valid hv (grp_whole (vldB_shape hv).mates hG).1 (Int.le_refl _) (by show (0 : Int) ≤ 64; omega)
  · obtain ⟨_, rfl⟩ := List.mem_replicate.1 h
    decide +kernel
theorem split_len {S M : List Int} {L : Int} (hv : vldB S M L = true) : (splitL S M L).length ≤ 128 := by
  have hs := vldB_shape hv
  have h1 := grp_len M S.length
  have h2 := hs.few
  have h3 := hs.hi
  unfold splitL
  rw [List.length_append, List.length_map, List.length_replicate]; omega
theorem primesL_take {ds : List Dgm} {i : Nat} (h : i < ds.length) : primesL (ds.take (i + 1)) = primesL (ds.take i) ++ primeL (ds.getD i ([], [], 0)).1 (ds.getD i ([], [], 0)).2.1 (ds.getD i ([], [], 0)).2.2 := by
  unfold primesL
  rw [List.take_add_one, getD_some (d := ([], [], 0)) h, List.flatMap_append]
  simp
theorem primesL_len {ds : List Dgm} (hv : ∀ d ∈ ds, vldB d.1 d.2.1 d.2.2 = true) : ∀ i, i ≤ ds.length → (primesL (ds.take i)).length ≤ 64 * i := fun i => by
  induction i with
  | zero => intro _; simp [primesL]
  | succ i ih =>
    intro hi
    have h1 := ih (by omega)
    have h2 := primeL_len (hv (ds.getD i ([], [], 0)) (by rw [List.getD_eq_getElem?_getD, List.getElem?_eq_getElem (by omega)]; exact List.getElem_mem _))
    rw [primesL_take (by omega), List.length_append]; omega
set_option maxRecDepth 100000 in
set_option maxHeartbeats 4000000 in
theorem factors_yes (S M : List Int) (L : Int) (aS aM : Option Addr) (cS cM : Nat) (w : World) (B0 : Nat) (hB0 : B0 ≤ w.heap.size) (hv : vldB S M L = true) (hS : IntsAt w aS S) (hM : IntsAt w aM M) :
    Calls Try.prog 33 #[.agg #[.slice aS S.length cS, .slice aM M.length cM, .int .i64 L]] w fun e w' => ∃ A C, e = .returned (.slice A (factorsL S M L).length C) ∧ DLO w' w.heap.size B0 A C (factorsL S M L) ∧ Below w.heap.size w w' := by
  have HSp : Hid (∀ W', Below w.heap.size w W' → Calls Try.prog 14 #[.agg #[.slice aS S.length cS, .slice aM M.length cM, .int .i64 L]] W' fun e w' => ∃ A C, e = .returned (.slice A (splitL S M L).length C) ∧ DLO w' W'.heap.size B0 A C (splitL S M L) ∧ Below W'.heap.size W' w') := Lib.hid fun W' h => (split_any S M L aS aM cS cM W' hv (hS.later h) (hM.later h) B0).mono fun e w' ⟨A, C, he, hd, hb⟩ => ⟨A, C, he, hd (Nat.le_trans hB0 h.size), hb⟩
  have hsv := split_valid hv
  have hsl := split_len hv
  have hpl := primesL_len hsv
  have HPr : Hid (∀ i, i < (splitL S M L).length → PrimeAt ((splitL S M L).getD i ([], [], 0)).1 ((splitL S M L).getD i ([], [], 0)).2.1 ((splitL S M L).getD i ([], [], 0)).2.2) := Lib.hid fun i hi => prime_any _ _ _ _ (Nat.le_refl _) (hsv _ (by rw [List.getD_eq_getElem?_getD, List.getElem?_eq_getElem hi]; exact List.getElem_mem _))
  unfold factorsL
  have H0 := Lib.hid ((HH.start w).alloc #[.slice aS S.length cS, .slice aM M.length cM, .int .i64 L] 24 rfl rfl)
  clear hv hS hM hsv
  generalize splitL S M L = T at *
  obtain ⟨i0, hi0, hz0, hz1, hz2⟩ := info_parts Try.info24
  have Hzc : Hid ((Value.agg #[.slice none 0 0, .slice none 0 0, .int .i64 0]).cells.size = 3) := Lib.hid rfl
  have Hpl : Hid (∀ i, i ≤ T.length → (primesL (T.take i)).length ≤ 64 * i) := Lib.hid hpl
  have hpT := hpl T.length (Nat.le_refl _)
  rw [List.take_of_length_le (Nat.le_refl _)] at hpT
  clear hpl
  go_enter Try.func33, Try.ntmps33
  go_wp2_with fail
  refine (HSp.out _ H0.out.below).mono ?_
  rintro e w1 ⟨A1, C1, rfl, ⟨vsT, hoT, _, hcT⟩, hb⟩
  have H1 := Lib.hid ((H0.out.addSl hb hoT).addNil 24)
  have HD := Lib.hid hcT
  clear hcT hoT hb H0 HSp
  go_wp2_with fail
  go_loopg [9, 3] T.length (fun g v s3 wr => ∃ (i : Nat) (A : Option Addr) (C : Nat) (vs : List Value), i ≤ T.length ∧ g = T.length - i ∧ v = .int .i64 i ∧ s3 = .slice A (primesL (T.take i)).length C ∧ (primesL (T.take i)).length ≤ C ∧ CellsOf wr B0 vsT T ∧ CellsOf wr B0 vs (primesL (T.take i)) ∧ HH w wr [(w.heap.size, rowO 24 [.slice aS S.length cS, .slice aM M.length cM, .int .i64 L])] [⟨A1, C1 * 3, 24, vsT⟩, ⟨A, C * 3, 24, vs⟩])
  case atStart => exact ⟨0, none, 0, [], Nat.zero_le _, rfl, rfl, rfl, Nat.le_refl _, HD.out, CellsOf.nil _ _, H1.out⟩
  case round =>
    obtain ⟨i, A, C, vs, hi, rfl, rfl, rfl, hiC, hd, hc, hh⟩ := hrel
    replace HD := Lib.hid hd
    have HCl := Lib.hid hc
    have Hh := Lib.hid hh
    clear hd hc hh H1
    have hli := Hpl.out i hi
    by_cases hil : i < T.length
    · obtain ⟨b1, o1, rfl, _, _, hrow, _⟩ := (Hh.out.sl (k := 0) rfl).open (Nat.lt_of_lt_of_le (show 0 < T.length * 3 by omega) (Nat.le_of_eq HD.out.1.symm))
      have hrow : ∀ j v, vsT[j]? = some v → wr.cell? ⟨b1, o1 + j, none⟩ = some v := hrow
      obtain ⟨a', c', b', e', g1, g2, g3, t1, t2⟩ := HD.out.2 i _ (getD_some (d := ([], [], 0)) hil)
      have q1 := hrow _ _ g1
      have q2 := hrow _ _ g2
      have q3 := hrow _ _ g3
      rw [← Nat.add_assoc] at q2 q3
      have HTi := Lib.hid (primesL_take hil)
      have HPi := Lib.hid (HPr.out i hil)
      have hli1 := Hpl.out (i + 1) (by omega)
      rw [HTi.out, List.length_append] at hli1
      generalize T.getD i ([], [], 0) = Ti at *
      obtain ⟨Si, Mi, Li⟩ := Ti
      dsimp only at *
      have HT := Lib.hid (And.intro t1 t2)
      clear hrow t1 t2 g1 g2 g3
      go_wp2_with fail
      have bA : Below wr.heap.size wr (wr.alloc (.cells #[.slice a' Si.length c', .slice b' Mi.length e', .int .i64 Li] 24)) := (Below.refl _ _).alloc (Nat.le_refl _) _
      have Ha := Lib.hid (Hh.out.call bA)
      have hB1 : B0 ≤ (wr.alloc (.cells #[.slice a' Si.length c', .slice b' Mi.length e', .int .i64 Li] 24)).heap.size := Nat.le_trans hB0 Ha.out.below.size
      have HD1 := Lib.hid (HD.out.later bA)
      have HC1 := Lib.hid (HCl.out.later bA)
      have HT1 := Lib.hid (And.intro (HT.out.1.later bA) (HT.out.2.later bA))
      clear bA q1 q2 q3
      refine (HPi.out a' b' c' e' _ B0 hB1 HT1.out.1 HT1.out.2).mono ?_
      rintro e w5 ⟨A5, C5, rfl, hd5, hb⟩
      have H5 := Lib.hid (Ha.out.call hb)
      have HD5 := Lib.hid (HD1.out.later hb)
      have HC5 := Lib.hid (HC1.out.later hb)
      obtain ⟨us, g1, g2, g3⟩ := hd5
      have K1 : Hid (vs.length = (primesL (T.take i)).length * 3) := Lib.hid HC5.out.1
      have K2 : Hid (us.length = (primeL Si Mi Li).length * 3) := Lib.hid g3.1
      have K3 := Lib.hid g1.at
      have K4 := Lib.hid g3.one'
      have K5 := Lib.hid H5.out.below.size
      have HU := Lib.hid g3
      clear g1 g2 g3 hb Ha HD1 HC1 HT1 HT hB1 Hh HD HCl
      generalize primeL Si Mi Li = Pi at *
      obtain ⟨Ti, hTi⟩ : ∃ Ti, Ti = primesL (T.take i) := ⟨_, rfl⟩
      rw [← hTi] at hiC hli hli1 HC5 K1 HTi ⊢
      have HTe := Lib.hid hTi
      clear hTi
      have hsl' : Ti.length ≤ 64 * 128 := by omega
      have hsm' : Ti.length + Pi.length ≤ 64 * 129 := by omega
      go_wp2_with (with_reducible refine wpList_append_wide rfl (.tmp 13) (.tmp 15) 27 27 rfl w.heap.size 24 i0 _ 56 3 Try.underlying27 Try.underlying27 hi0 hz0 hz1 (by decide) hz2 Hzc.out A Ti.length C vs rfl K1.out hiC (H5.out.sl (k := 1) rfl) A5 Pi.length C5 us rfl K2.out K3.out K4.out (by omega) (by omega) K5.out ?_; intro A7 e7 w7 hle hO7 hT7 hA7; have HO7 := Lib.hid hO7; have HT7 := Lib.hid hT7; have HA7 := Lib.hid hA7; have Hle := Lib.hid hle; clear hO7 hT7 hA7 hle)
      have H7 := Lib.hid (H5.out.grow (k := 1) rfl HO7.out HT7.out HA7.out)
      have HD7 := Lib.hid (HD5.out.turned (show (24 : TypeId) ≠ 3 from by decide) hB0 (H5.out.sl (k := 1) rfl) HT7.out)
      have HC7 := Lib.hid ((HC5.out.append HU.out).turned (show (24 : TypeId) ≠ 3 from by decide) hB0 (H5.out.sl (k := 1) rfl) HT7.out)
      go_roundg (T.length - (i + 1))
      case measure => omega
      case rel =>
        refine ⟨i + 1, A7, e7, _, by omega, rfl, by go_num, by rw [HTi.out, List.length_append], ?_, HD7.out, ?_, H7.out⟩
        · rw [HTi.out, List.length_append]; exact Hle.out
        · rw [HTi.out]; exact HC7.out
    · obtain rfl : i = T.length := by omega
      rw [List.take_of_length_le (Nat.le_refl _)] at *
      go_wp2_with fail
      go_ret
      exact ⟨A, C, rfl, ⟨vs, Hh.out.sl (k := 1) rfl, hiC, HCl.out⟩, Hh.out.below⟩
end Go.Proofs.Ytmjoijfafachhaa
