/- The walk of the law CanonCodes. -/
import Derived.Laws.Concat
import Derived.WalkKit
import Derived.WalkSpells
import Derived.WalkLawsBesides
import Derived.Deep.AppendSrc
import Derived.Deep.LoopGhost
import Derived.Deep.QuietTactic
import Derived.Deep.RegionWith
import Derived.Deep.DeepMust
import Derived.Deep.DeepFit
import Derived.BigQuiet
import Derived.Lib.Hide
import Derived.Outline
import Derived.Test.YtmhhjchnjaefhaaDoorProg
import Derived.Deep.Matrix
import Derived.Deep.DeepCutAuto
import Derived.Deep.RegionLaw
import Derived.Deep.RegionHeld3
import Derived.Lib.SliceRun
import Derived.Shelf.Strings.Builder1
import Derived.Shelf.Small.Wraps
import Derived.Shelf.Strings.BuilderF
import Derived.Shelf.Strings.BuilderK
import Derived.Shelf.Strconv.Itoa0
import Derived.Shelf.Strconv.Itoa1
import Derived.Shelf.LaysM
import Derived.Shelf.Strconv.Itoa2
import Derived.Shelf.Strconv.Itoa3
import Derived.Shelf.Slices.Equal
import Derived.Ground.Names2Prog
import Derived.Shelf.Slices.Clone
import Derived.Shelf.Slices.SearchI
import Derived.Shelf.Slices.Empties2
import Derived.Ground.SlgnProg
import Derived.Shelf.SlicesE.Clone
import Derived.Sort.OwnSortedInts
import Derived.Shelf.Small.Bits
import Derived.Shelf.Sort.Plain
import Derived.Shelf.Slices.Turned
import Derived.Shelf.Slices.CompactI
import Derived.Shelf.Slices.Cells
import Derived.Shelf.Slices.In.SortNone
import Derived.Lib.AppendZeros
import Derived.Deep.RegionHeld
import Derived.Lib.Builder
import Derived.Lib.AppendStr
import Derived.Lib.Walk
import Derived.Laws.Externs
import Derived.Lib.AppendIntMem
import Derived.Test.YtmhhjchnjaefhaaDoorUAa
import Derived.Test.YtmhhjchnjaefhaaDoorUAb
import Derived.Test.YtmhhjchnjaefhaaDoorUAc
import Derived.Test.YtmhhjchnjaefhaaDoorUAd
import Derived.Test.YtmhhjchnjaefhaaDoorUAe
import Derived.Test.YtmhhjchnjaefhaaDoorUAf
import Derived.Test.YtmhhjchnjaefhaaDoorUAg
import Derived.Test.YtmhhjchnjaefhaaDoorUAh
import Derived.Test.YtmhhjchnjaefhaaDoorUAi
import Derived.Test.YtmhhjchnjaefhaaDoorUAj
import Derived.Test.YtmhhjchnjaefhaaDoorUAk
import Derived.Test.YtmhhjchnjaefhaaDoorUAl
import Derived.Test.YtmhhjchnjaefhaaDoorUAm
import Derived.Test.YtmhhjchnjaefhaaDoorUAn
import Derived.Test.YtmhhjchnjaefhaaDoorUAo
import Derived.Test.YtmhhjchnjaefhaaDoorUAp
import Derived.Test.YtmhhjchnjaefhaaDoorUAq
import Derived.Test.YtmhhjchnjaefhaaDoorUAr
import Derived.Test.YtmhhjchnjaefhaaDoorUAs
import Derived.Test.YtmhhjchnjaefhaaDoorUAt
import Derived.Test.YtmhhjchnjaefhaaDoorUAu
import Derived.Test.YtmhhjchnjaefhaaDoorUAv
namespace Go.Proofs.YtmhhjchnjaefhaaDoor
open Go Go.RowKit
set_option maxRecDepth 100000 in
set_option maxHeartbeats 8000000 in
theorem lcod_1 (S M : List Int) (L : Int) (aS aM : Option Addr) (cS cM : Nat) (w : World) (ht : Pow10 w) (hg : greatB S M L = true) :
    Calls Tryd.prog 6 #[.agg #[.slice aS S.length cS, .slice aM M.length cM, .int .i64 L]] w fun e w' => e = .returned (.bool true) ∧ Below w.heap.size w w' := by
  have HA : Hid (∀ W', Below w.heap.size w W' → Calls Tryd.prog 11 #[] W' fun e w' => e = .returned (.bool true) ∧ Below W'.heap.size W' w') := Lib.hid fun W' h => awake_any W' (ht.later h)
  have HGa : Hid (∀ W', Calls Tryd.prog 12 #[.agg #[.slice aS S.length cS, .slice aM M.length cM, .int .i64 L]] W' fun e w' => e = .returned (.bool true) ∧ Below W'.heap.size W' w') := Lib.hid fun W' => by
    have g := great_any S M L aS aM cS cM W'
    rw [hg] at g; exact g
  have H0 := Lib.hid ((HH.start w).alloc #[.slice aS S.length cS, .slice aM M.length cM, .int .i64 L] 24 rfl rfl)
  clear hg ht
  generalize S.length = n at *
  generalize M.length = N at *
  go_enter Tryd.func6, Tryd.ntmps6
  go_wp2_with fail
  refine (HA.out _ H0.out.below).mono ?_
  rintro e w1 ⟨rfl, hb⟩
  have H1 := Lib.hid (H0.out.call hb)
  clear hb H0 
  have k00 := H1.out.cell (k := 0) (i := 0) rfl rfl
  have k01 := H1.out.cell (k := 0) (i := 1) rfl rfl
  have k02 := H1.out.cell (k := 0) (i := 2) rfl rfl
  go_wp2_with fail
  clear k00 k01 k02
  refine (HGa.out _).mono ?_
  rintro e w2 ⟨rfl, hb⟩
  have H2 := Lib.hid (H1.out.call hb)
  clear hb H1 
  have k00 := H2.out.cell (k := 0) (i := 0) rfl rfl
  have k01 := H2.out.cell (k := 0) (i := 1) rfl rfl
  have k02 := H2.out.cell (k := 0) (i := 2) rfl rfl
  go_wp2_with fail
  go_ret
  exact ⟨rfl, H2.out.below⟩
set_option maxRecDepth 100000 in
set_option maxHeartbeats 8000000 in
theorem lcod_2 (S M : List Int) (L : Int) (aS aM : Option Addr) (cS cM : Nat) (w : World) (ht : Pow10 w) (hg : greatB S M L = false) (hv : vldB S M L = false) (hS : IntsAt w aS S) (hM : IntsAt w aM M) :
    Calls Tryd.prog 6 #[.agg #[.slice aS S.length cS, .slice aM M.length cM, .int .i64 L]] w fun e w' => e = .returned (.bool true) ∧ Below w.heap.size w w' := by
  have HA : Hid (∀ W', Below w.heap.size w W' → Calls Tryd.prog 11 #[] W' fun e w' => e = .returned (.bool true) ∧ Below W'.heap.size W' w') := Lib.hid fun W' h => awake_any W' (ht.later h)
  have HGa : Hid (∀ W', Calls Tryd.prog 12 #[.agg #[.slice aS S.length cS, .slice aM M.length cM, .int .i64 L]] W' fun e w' => e = .returned (.bool false) ∧ Below W'.heap.size W' w') := Lib.hid fun W' => by
    have g := great_any S M L aS aM cS cM W'
    rw [hg] at g; exact g
  obtain ⟨ga1, ga2⟩ := greatB_no hg
  have HV : Hid (∀ W', Below w.heap.size w W' → Calls Tryd.prog 13 #[.agg #[.slice aS S.length cS, .slice aM M.length cM, .int .i64 L]] W' fun e w' => e = .returned (.bool false) ∧ Below W'.heap.size W' w') := Lib.hid fun W' h => by
    have g := rvalid_any S M L aS aM cS cM W' (by omega) (by omega) (hS.later h) (hM.later h)
    rw [hv] at g; exact g
  have HCd : Hid (∀ W', Below w.heap.size w W' → Calls Tryd.prog 25 #[.agg #[.slice aS S.length cS, .slice aM M.length cM, .int .i64 L]] W' fun e w' => e = .returned (.slice none 0 0) ∧ Below W'.heap.size W' w') := Lib.hid fun W' h => code_no S M L aS aM cS cM W' (by omega) (by omega) hv (hS.later h) (hM.later h)
  have HKy : Hid (∀ W', Below w.heap.size w W' → Calls Tryd.prog 24 #[.agg #[.slice aS S.length cS, .slice aM M.length cM, .int .i64 L]] W' fun e w' => e = .returned (.string ⟨#[]⟩) ∧ Below W'.heap.size W' w') := Lib.hid fun W' h => by
    have g := key_any S M L aS aM cS cM W' ga1 (by omega) (ht.later h) (hS.later h) (hM.later h)
    rw [cdV_no hv] at g; exact g
  have HFm : Hid (∀ W', Below w.heap.size w W' → Calls Tryd.prog 26 #[.agg #[.slice aS S.length cS, .slice aM M.length cM, .int .i64 L]] W' fun e w' => e = .returned (.tuple #[.agg #[.slice none 0 0, .slice none 0 0, .int .i64 0], .int .i64 1]) ∧ Below W'.heap.size W' w') := Lib.hid fun W' h => form_bad S M L aS aM cS cM W' (by omega) (by omega) hv (hS.later h) (hM.later h)
  have HEq : Hid (∀ W', Calls Tryd.prog 27 #[.agg #[.slice none 0 0, .slice none 0 0, .int .i64 0], .agg #[.slice none 0 0, .slice none 0 0, .int .i64 0]] W' fun e w' => e = .returned (.bool true) ∧ Below W'.heap.size W' w') := Lib.hid fun W' => by
    have g := equalR_any [] [] [] [] 0 0 none none none none 0 0 0 0 W' (by simp) (by simp) (IntsAt.nil _ _) (IntsAt.nil _ _) (IntsAt.nil _ _) (IntsAt.nil _ _)
    exact g
  have tK : ((⟨#[]⟩ : ByteArray).toList == (⟨#[]⟩ : ByteArray).toList) = true := beq_self_eq_true _
  have H0 := Lib.hid ((HH.start w).alloc #[.slice aS S.length cS, .slice aM M.length cM, .int .i64 L] 24 rfl rfl)
  clear hg ht hv hS hM
  generalize S.length = n at *
  generalize M.length = N at *
  go_enter Tryd.func6, Tryd.ntmps6
  go_wp2_with fail
  refine (HA.out _ H0.out.below).mono ?_
  rintro e w1 ⟨rfl, hb⟩
  have H1 := Lib.hid (H0.out.call hb)
  clear hb H0 
  have k00 := H1.out.cell (k := 0) (i := 0) rfl rfl
  have k01 := H1.out.cell (k := 0) (i := 1) rfl rfl
  have k02 := H1.out.cell (k := 0) (i := 2) rfl rfl
  go_wp2_with fail
  clear k00 k01 k02
  refine (HGa.out _).mono ?_
  rintro e w2 ⟨rfl, hb⟩
  have H2 := Lib.hid (H1.out.call hb)
  clear hb H1 
  go_upto_region 5 with fail
  have HQ : Hid (∀ W', Below w2.heap.size w2 W' → W'.cell? ⟨w.heap.size, 0, none⟩ = some (.slice aS n cS) ∧ W'.cell? ⟨w.heap.size, 1, none⟩ = some (.slice aM N cM) ∧ W'.cell? ⟨w.heap.size, 2, none⟩ = some (.int .i64 L)) := Lib.hid fun W' h => by
    have h1 := H2.out.call h
    exact ⟨(h1.cell (k := 0) (i := 0) rfl rfl), (h1.cell (k := 0) (i := 1) rfl rfl), (h1.cell (k := 0) (i := 2) rfl rfl)⟩
  have HD : Hid (∀ W', Below w2.heap.size w2 W' → Below w.heap.size w W') := Lib.hid fun W' h => below_of H2.out.below h H2.out.below.size
  have B0 : Hid (Below w2.heap.size w2 w2.drew) := Lib.hid (Below.refl _ _).drew
  have Q0 := Lib.hid (HQ.out _ B0.out)
  go_region_held3 (fun W' => W'.cell? ⟨w.heap.size, 0, none⟩ = some (.slice aS n cS) ∧ W'.cell? ⟨w.heap.size, 1, none⟩ = some (.slice aM N cM) ∧ W'.cell? ⟨w.heap.size, 2, none⟩ = some (.int .i64 L))
    (first
      | with_reducible exact Q0.out
      | with_reducible exact Q1.out
      | with_reducible exact Q2.out)
    (first
      | ((with_reducible refine (HCd.out _ (HD.out _ B0.out)).mono ?_); rintro e z1 ⟨rfl, hb⟩; have B1 := Lib.hid (B0.out.trans (hb.mono B0.out.size)); have Q1 := Lib.hid (HQ.out _ B1.out); clear hb)
      | ((with_reducible refine (HKy.out _ (HD.out _ B1.out)).mono ?_); rintro e z2 ⟨rfl, hb⟩; have B2 := Lib.hid (B1.out.trans (hb.mono B1.out.size)); have Q2 := Lib.hid (HQ.out _ B2.out); clear hb))
  have H4 := Lib.hid (H2.out.call B2.out)
  clear H2 Q0 Q1 Q2 B0 B1 B2 HQ HD
  have k00 := H4.out.cell (k := 0) (i := 0) rfl rfl
  have k01 := H4.out.cell (k := 0) (i := 1) rfl rfl
  have k02 := H4.out.cell (k := 0) (i := 2) rfl rfl
  go_wp2_with fail
  clear k00 k01 k02
  refine (HFm.out _ H4.out.below).mono ?_
  rintro e w5 ⟨rfl, hb⟩
  have H5' := Lib.hid (H4.out.call hb)
  clear hb H4
  have H5 := Lib.hid (H5'.out.alloc #[.slice none 0 0, .slice none 0 0, .int .i64 0] 24 (b := w5.heap.size) rfl rfl)
  have j0 := H5'.out.cell (k := 0) (i := 0) rfl rfl
  have j1 := H5'.out.cell (k := 0) (i := 1) rfl rfl
  have j2 := H5'.out.cell (k := 0) (i := 2) rfl rfl
  go_upto_region 7 with fail
  clear H5' j0 j1 j2
  generalize w5.alloc (.cells #[.slice none 0 0, .slice none 0 0, .int .i64 0] 24) = v5 at *
  generalize w5.heap.size = q5 at *
  have j0 := H5.out.cell (k := 0) (i := 0) rfl rfl
  have j1 := H5.out.cell (k := 0) (i := 1) rfl rfl
  have j2 := H5.out.cell (k := 0) (i := 2) rfl rfl
  go_wp2_with fail
  clear j0 j1 j2
  refine (HV.out _ H5.out.below).mono ?_
  rintro e w6 ⟨rfl, hb⟩
  have H6 := Lib.hid (H5.out.call hb)
  clear hb H5
  have j0 := H6.out.cell (k := 1) (i := 0) rfl rfl
  have j1 := H6.out.cell (k := 1) (i := 1) rfl rfl
  have j2 := H6.out.cell (k := 1) (i := 2) rfl rfl
  go_wp2_with fail
  clear j0 j1 j2
  refine (HEq.out _).mono ?_
  rintro e w7 ⟨rfl, hb⟩
  have H7 := Lib.hid (H6.out.call hb)
  clear hb H6
  go_wp2_with fail
  go_ret
  exact ⟨rfl, H7.out.below⟩
set_option maxRecDepth 100000 in
set_option maxHeartbeats 8000000 in
theorem lcod_3 (S M : List Int) (L : Int) (aS aM : Option Addr) (cS cM : Nat) (w : World) (ht : Pow10 w) (hg : greatB S M L = false) (hv : vldB S M L = true) (hS : IntsAt w aS S) (hM : IntsAt w aM M) :
    Calls Tryd.prog 6 #[.agg #[.slice aS S.length cS, .slice aM M.length cM, .int .i64 L]] w fun e w' => e = .returned (.bool true) ∧ Below w.heap.size w w' := by
  have HA : Hid (∀ W', Below w.heap.size w W' → Calls Tryd.prog 11 #[] W' fun e w' => e = .returned (.bool true) ∧ Below W'.heap.size W' w') := Lib.hid fun W' h => awake_any W' (ht.later h)
  have HGa : Hid (∀ W', Calls Tryd.prog 12 #[.agg #[.slice aS S.length cS, .slice aM M.length cM, .int .i64 L]] W' fun e w' => e = .returned (.bool false) ∧ Below W'.heap.size W' w') := Lib.hid fun W' => by
    have g := great_any S M L aS aM cS cM W'
    rw [hg] at g; exact g
  obtain ⟨ga1, ga2⟩ := greatB_no hg
  have HV : Hid (∀ W', Below w.heap.size w W' → Calls Tryd.prog 13 #[.agg #[.slice aS S.length cS, .slice aM M.length cM, .int .i64 L]] W' fun e w' => e = .returned (.bool true) ∧ Below W'.heap.size W' w') := Lib.hid fun W' h => by
    have g := rvalid_any S M L aS aM cS cM W' (by omega) (by omega) (hS.later h) (hM.later h)
    rw [hv] at g; exact g
  have HCd : Hid (∀ W', Below w.heap.size w W' → Calls Tryd.prog 25 #[.agg #[.slice aS S.length cS, .slice aM M.length cM, .int .i64 L]] W' fun e w' => ∃ a c, e = .returned (.slice a (codeOf S M L).length c) ∧ IntsAt w' a (codeOf S M L) ∧ Below W'.heap.size W' w') := Lib.hid fun W' h => (code_yes S M L aS aM cS cM W' hv ga1 (hS.later h) (hM.later h)).mono fun e w' ⟨a, c, e1, e2, e3⟩ => ⟨a, c, e1, e2.ints, e3⟩
  have HRc : Hid (∀ W', Below w.heap.size w W' → Calls Tryd.prog 28 #[.agg #[.slice aS S.length cS, .slice aM M.length cM, .int .i64 L]] W' fun e w' => ∃ a c, e = .returned (.slice a (codeOf S M L).length c) ∧ IntsAt w' a (codeOf S M L) ∧ Below W'.heap.size W' w') := Lib.hid fun W' h => (rcode_any S M L aS aM cS cM W' hv (hS.later h) (hM.later h)).mono fun e w' ⟨a, c, e1, e2, e3⟩ => ⟨a, c, e1, e2.ints, e3⟩
  have HKy : Hid (∀ W', Below w.heap.size w W' → Calls Tryd.prog 24 #[.agg #[.slice aS S.length cS, .slice aM M.length cM, .int .i64 L]] W' fun e w' => e = .returned (.string ⟨(keyT (codeOf S M L) (codeOf S M L).length).toArray⟩) ∧ Below W'.heap.size W' w') := Lib.hid fun W' h => by
    have g := key_any S M L aS aM cS cM W' ga1 (by omega) (ht.later h) (hS.later h) (hM.later h)
    rw [cdV_yes hv] at g; exact g
  have HFm : Hid (∀ W', Below w.heap.size w W' → Calls Tryd.prog 26 #[.agg #[.slice aS S.length cS, .slice aM M.length cM, .int .i64 L]] W' fun e w' => ∃ a b c d, e = .returned (.tuple #[.agg #[.slice a S.length c, .slice b M.length d, .int .i64 L], .int .i64 0]) ∧ IntsAt w' a (fmS S M) ∧ IntsAt w' b (fmM S M) ∧ Below W'.heap.size W' w') := Lib.hid fun W' h => (form_yes S M L aS aM cS cM W' hv ga1 (hS.later h) (hM.later h)).mono fun e w' ⟨a, b, c, d, e1, e2, e3, e4⟩ => ⟨a, b, c, d, e1, e2.ints, e3.ints, e4⟩
  have HRf : Hid (∀ W', Below w.heap.size w W' → Calls Tryd.prog 31 #[.agg #[.slice aS S.length cS, .slice aM M.length cM, .int .i64 L]] W' fun e w' => ∃ a b c d, e = .returned (.agg #[.slice a S.length c, .slice b M.length d, .int .i64 L]) ∧ IntsAt w' a (fmS S M) ∧ IntsAt w' b (fmM S M) ∧ Below W'.heap.size W' w') := Lib.hid fun W' h => rform_any S M L aS aM cS cM W' hv (hS.later h) (hM.later h)
  obtain ⟨fl1, fl2⟩ := fm_len hv
  have HEq : Hid (∀ (a b a' b' : Option Addr) (c d c' d' : Nat) W', IntsAt W' a (fmS S M) → IntsAt W' b (fmM S M) → IntsAt W' a' (fmS S M) → IntsAt W' b' (fmM S M) → Calls Tryd.prog 27 #[.agg #[.slice a S.length c, .slice b M.length d, .int .i64 L], .agg #[.slice a' S.length c', .slice b' M.length d', .int .i64 L]] W' fun e w' => e = .returned (.bool true) ∧ Below W'.heap.size W' w') := Lib.hid fun a b a' b' c d c' d' W' h1 h2 h3 h4 => by
    have g := equalR_any (fmS S M) (fmM S M) (fmS S M) (fmM S M) L L a b a' b' c d c' d' W' (by omega) (by omega) h1 h2 h3 h4
    rw [eqD_same', fl1, fl2] at g; exact g
  have HIn : Hid (∀ (a b : Option Addr) (c d : Nat) W', IntsAt W' a (codeOf S M L) → IntsAt W' b (codeOf S M L) → Calls Tryd.prog 30 #[.slice a (codeOf S M L).length c, .slice b (codeOf S M L).length d] W' fun e w' => e = .returned (.bool true) ∧ Below W'.heap.size W' w') := Lib.hid fun a b c d W' h1 h2 => (ints_any _ _ a b c d W' (codeOf_few hv ga1) h1 h2).mono fun e w' ⟨e1, m, e2⟩ => ⟨by rw [e1, decide_eq_true rfl], by rw [e2]; exact below_drewNN (Below.refl _ _) _⟩
  have HSm := Lib.hid (codeOf_sml hv ga1)
  have hfew := codeOf_few2 hv ga1
  have HT : Hid (∀ w', Below w.heap.size w w' → Pow10 w') := Lib.hid fun w' h => ht.later h
  have H0 := Lib.hid ((HH.start w).alloc #[.slice aS S.length cS, .slice aM M.length cM, .int .i64 L] 24 rfl rfl)
  clear hg ht hv hS hM fl1 fl2
  generalize codeOf S M L = CO at *
  generalize fmS S M = FSz at *
  generalize fmM S M = FM at *
  generalize S.length = n at *
  generalize M.length = N at *
  have tK : ((⟨(keyT CO CO.length).toArray⟩ : ByteArray).toList == (⟨(keyT CO CO.length).toArray⟩ : ByteArray).toList) = true := beq_self_eq_true _
  go_enter Tryd.func6, Tryd.ntmps6
  go_wp2_with fail
  refine (HA.out _ H0.out.below).mono ?_
  rintro e w1 ⟨rfl, hb⟩
  have H1 := Lib.hid (H0.out.call hb)
  clear hb H0 
  have k00 := H1.out.cell (k := 0) (i := 0) rfl rfl
  have k01 := H1.out.cell (k := 0) (i := 1) rfl rfl
  have k02 := H1.out.cell (k := 0) (i := 2) rfl rfl
  go_wp2_with fail
  clear k00 k01 k02
  refine (HGa.out _).mono ?_
  rintro e w2 ⟨rfl, hb⟩
  have H2 := Lib.hid (H1.out.call hb)
  clear hb H1 
  go_upto_region 5 with fail
  have HQ : Hid (∀ W', Below w2.heap.size w2 W' → W'.cell? ⟨w.heap.size, 0, none⟩ = some (.slice aS n cS) ∧ W'.cell? ⟨w.heap.size, 1, none⟩ = some (.slice aM N cM) ∧ W'.cell? ⟨w.heap.size, 2, none⟩ = some (.int .i64 L)) := Lib.hid fun W' h => by
    have h1 := H2.out.call h
    exact ⟨(h1.cell (k := 0) (i := 0) rfl rfl), (h1.cell (k := 0) (i := 1) rfl rfl), (h1.cell (k := 0) (i := 2) rfl rfl)⟩
  have HD : Hid (∀ W', Below w2.heap.size w2 W' → Below w.heap.size w W') := Lib.hid fun W' h => below_of H2.out.below h H2.out.below.size
  have B0 : Hid (Below w2.heap.size w2 w2.drew) := Lib.hid (Below.refl _ _).drew
  have Q0 := Lib.hid (HQ.out _ B0.out)
  go_region_held3 (fun W' => W'.cell? ⟨w.heap.size, 0, none⟩ = some (.slice aS n cS) ∧ W'.cell? ⟨w.heap.size, 1, none⟩ = some (.slice aM N cM) ∧ W'.cell? ⟨w.heap.size, 2, none⟩ = some (.int .i64 L))
    (first
      | with_reducible exact Q0.out
      | with_reducible exact Q1.out
      | with_reducible exact Q2.out)
    (first
      | ((with_reducible refine (HCd.out _ (HD.out _ B0.out)).mono ?_); rintro e z1 ⟨A5, C5, rfl, n1, hb⟩; have B1 := Lib.hid (B0.out.trans (hb.mono B0.out.size)); have Q1 := Lib.hid (HQ.out _ B1.out); have N1 := Lib.hid n1; clear n1; clear hb)
      | ((with_reducible refine (HKy.out _ (HD.out _ B1.out)).mono ?_); rintro e z2 ⟨rfl, hb⟩; have B2 := Lib.hid (B1.out.trans (hb.mono B1.out.size)); have Q2 := Lib.hid (HQ.out _ B2.out); have N2 := Lib.hid (N1.out.later hb); clear hb))
  have H4 := Lib.hid (H2.out.call B2.out)
  clear H2 Q0 Q1 Q2 B0 B1 B2 HQ HD N1
  have k00 := H4.out.cell (k := 0) (i := 0) rfl rfl
  have k01 := H4.out.cell (k := 0) (i := 1) rfl rfl
  have k02 := H4.out.cell (k := 0) (i := 2) rfl rfl
  go_wp2_with fail
  clear k00 k01 k02
  refine (HFm.out _ H4.out.below).mono ?_
  rintro e w5 ⟨a5, b5, c5, d5, rfl, o1, o2, hb⟩
  have H5' := Lib.hid (H4.out.call hb)
  have N3 := Lib.hid (N2.out.later hb)
  have O1 := Lib.hid (And.intro o1 o2)
  clear hb H4 o1 o2 N2
  have H5 := Lib.hid (H5'.out.alloc #[.slice a5 n c5, .slice b5 N d5, .int .i64 L] 24 (b := w5.heap.size) rfl rfl)
  have stb : Hid (Below w5.heap.size w5 (w5.alloc (.cells #[.slice a5 n c5, .slice b5 N d5, .int .i64 L] 24))) := Lib.hid ((Below.refl _ _).alloc (Nat.le_refl _) _)
  have N4 := Lib.hid (N3.out.later stb.out)
  have O2 := Lib.hid (And.intro (O1.out.1.later stb.out) (O1.out.2.later stb.out))
  have j0 := H5'.out.cell (k := 0) (i := 0) rfl rfl
  have j1 := H5'.out.cell (k := 0) (i := 1) rfl rfl
  have j2 := H5'.out.cell (k := 0) (i := 2) rfl rfl
  go_upto_region 7 with fail
  clear H5' j0 j1 j2 O1 N3 stb
  generalize w5.alloc (.cells #[.slice a5 n c5, .slice b5 N d5, .int .i64 L] 24) = v5 at *
  generalize w5.heap.size = q5 at *
  have j0 := H5.out.cell (k := 0) (i := 0) rfl rfl
  have j1 := H5.out.cell (k := 0) (i := 1) rfl rfl
  have j2 := H5.out.cell (k := 0) (i := 2) rfl rfl
  go_wp2_with fail
  clear j0 j1 j2
  refine (HV.out _ H5.out.below).mono ?_
  rintro e w6 ⟨rfl, hb⟩
  have H6 := Lib.hid (H5.out.call hb)
  have N5 := Lib.hid (N4.out.later hb)
  have O3 := Lib.hid (And.intro (O2.out.1.later hb) (O2.out.2.later hb))
  clear hb H5 N4 O2
  have j0 := H6.out.cell (k := 0) (i := 0) rfl rfl
  have j1 := H6.out.cell (k := 0) (i := 1) rfl rfl
  have j2 := H6.out.cell (k := 0) (i := 2) rfl rfl
  go_wp2_with fail
  clear j0 j1 j2
  refine (HRc.out _ H6.out.below).mono ?_
  rintro e w7 ⟨A7, C7, rfl, n7, hb⟩
  have H7 := Lib.hid (H6.out.call hb)
  have N6 := Lib.hid (N5.out.later hb)
  have O4 := Lib.hid (And.intro (O3.out.1.later hb) (O3.out.2.later hb))
  have N7 := Lib.hid n7
  clear hb H6 N5 O3 n7
  go_wp2_with fail
  go_loopg [47, 8] CO.length (fun g v s wx => ∃ i : Nat, i ≤ CO.length ∧ g = CO.length - i ∧ v = .int .i64 (i : Int) ∧ s = .string ⟨(keyT CO i).toArray⟩ ∧ Hid (Below w7.heap.size w7 wx))
  case atStart => exact ⟨0, Nat.zero_le _, rfl, rfl, rfl, Lib.hid (Below.refl _ _)⟩
  case round =>
    obtain ⟨i, hi, rfl, rfl, rfl, Jr⟩ := hrel
    by_cases hil : i < CO.length
    · obtain ⟨bA, oA, rfl, _, hc⟩ := (N7.out.later Jr.out).open (by omega)
      have c1 := hc i hil
      have HX := Lib.hid (HSm.out _ (nth_mem CO i hil))
      have HK : Hid (keyT CO (i + 1) = keyT CO i ++ (if 0 < i then [44] else []) ++ Lib.itoa (nth CO i)) := Lib.hid rfl
      have HB7 : Hid (Below w.heap.size w wr) := Lib.hid (below_of H7.out.below Jr.out H7.out.below.size)
      have hkl := keyT_len HSm.out i hi
      have hxl := itoa_len HX.out
      clear hc
      generalize nth CO i = x at *
      by_cases h0 : i = 0
      · have d1 : decide (0 < (i : Int)) = false := decide_eq_false (by omega)
        have d2 : decide (0 < i) = false := decide_eq_false (by omega)
        rw [if_neg (by omega), List.append_nil] at HK
        have s1 : ∀ W : World, (Op.stringOp .add ⟨(keyT CO i).toArray⟩ ⟨(Lib.itoa x).toArray⟩).run Tryd.prog W = .ok (.string ⟨(keyT CO i ++ Lib.itoa x).toArray⟩) W := fun W => run_string_add_lists W _ _ (by omega) (by omega)
        clear h0
        go_wp2_with fail
        refine (itoa_any x HX.out wr (HT.out _ HB7.out)).mono ?_
        rintro e w8 ⟨rfl, hb⟩
        have J8 := Lib.hid (Jr.out.trans (hb.mono Jr.out.size))
        clear hb HB7
        go_wp2_with fail
        go_roundg (CO.length - (i + 1))
        case measure => omega
        case rel => exact ⟨i + 1, by omega, rfl, by go_num, by rw [HK.out], Lib.hid J8.out⟩
      · have d1 : decide (0 < (i : Int)) = true := decide_eq_true (by omega)
        have d2 : decide (0 < i) = true := decide_eq_true (by omega)
        rw [if_pos (by omega)] at HK
        have s1 : ∀ W : World, (Op.stringOp .add ⟨(keyT CO i).toArray⟩ ⟨#[44]⟩).run Tryd.prog W = .ok (.string ⟨(keyT CO i ++ [44]).toArray⟩) W := fun W => run_string_add_lists W _ [44] (by omega) (by simp)
        have s2 : ∀ W : World, (Op.stringOp .add ⟨(keyT CO i ++ [44]).toArray⟩ ⟨(Lib.itoa x).toArray⟩).run Tryd.prog W = .ok (.string ⟨(keyT CO i ++ [44] ++ Lib.itoa x).toArray⟩) W := fun W => run_string_add_lists W _ _ (by rw [List.length_append, List.length_singleton]; omega) (by omega)
        generalize hk2 : keyT CO i ++ [44] = kt2 at *
        clear h0 hk2
        go_wp2_with fail
        refine (itoa_any x HX.out wr (HT.out _ HB7.out)).mono ?_
        rintro e w8 ⟨rfl, hb⟩
        have J8 := Lib.hid (Jr.out.trans (hb.mono Jr.out.size))
        clear hb HB7
        go_wp2_with fail
        go_roundg (CO.length - (i + 1))
        case measure => omega
        case rel => exact ⟨i + 1, by omega, rfl, by go_num, by rw [HK.out], Lib.hid J8.out⟩
    · obtain rfl : i = CO.length := by omega
      have N8 := Lib.hid (N7.out.later Jr.out)
      have M8 := Lib.hid (N6.out.later Jr.out)
      have O8 := Lib.hid (And.intro (O4.out.1.later Jr.out) (O4.out.2.later Jr.out))
      have H8 := Lib.hid (H7.out.call Jr.out)
      clear N7 N6 O4 H7 Jr hil hi
      generalize (keyT CO CO.length).toArray = KA at *
      go_upto_region 18 with fail
      have HQ : Hid (∀ W', Below wr.heap.size wr W' → W'.cell? ⟨w.heap.size, 0, none⟩ = some (.slice aS n cS) ∧ W'.cell? ⟨w.heap.size, 1, none⟩ = some (.slice aM N cM) ∧ W'.cell? ⟨w.heap.size, 2, none⟩ = some (.int .i64 L) ∧ W'.cell? ⟨q5, 0, none⟩ = some (.slice a5 n c5) ∧ W'.cell? ⟨q5, 1, none⟩ = some (.slice b5 N d5) ∧ W'.cell? ⟨q5, 2, none⟩ = some (.int .i64 L)) := Lib.hid fun W' h => by
        have h1 := H8.out.call h
        exact ⟨(h1.cell (k := 0) (i := 0) rfl rfl), (h1.cell (k := 0) (i := 1) rfl rfl), (h1.cell (k := 0) (i := 2) rfl rfl), (h1.cell (k := 1) (i := 0) rfl rfl), (h1.cell (k := 1) (i := 1) rfl rfl), (h1.cell (k := 1) (i := 2) rfl rfl)⟩
      have HD : Hid (∀ W', Below wr.heap.size wr W' → Below w.heap.size w W') := Lib.hid fun W' h => below_of H8.out.below h H8.out.below.size
      have B0 : Hid (Below wr.heap.size wr wr.drew) := Lib.hid (Below.refl _ _).drew
      have Q0 := Lib.hid (HQ.out _ B0.out)
      go_region_held3 (fun W' => W'.cell? ⟨w.heap.size, 0, none⟩ = some (.slice aS n cS) ∧ W'.cell? ⟨w.heap.size, 1, none⟩ = some (.slice aM N cM) ∧ W'.cell? ⟨w.heap.size, 2, none⟩ = some (.int .i64 L) ∧ W'.cell? ⟨q5, 0, none⟩ = some (.slice a5 n c5) ∧ W'.cell? ⟨q5, 1, none⟩ = some (.slice b5 N d5) ∧ W'.cell? ⟨q5, 2, none⟩ = some (.int .i64 L))
        (first
          | with_reducible exact Q0.out
          | with_reducible exact Q1.out
          | with_reducible exact Q2.out
          | with_reducible exact Q3.out)
        (first
          | ((with_reducible refine (HIn.out A5 A7 C5 C7 _ (M8.out.later B0.out) (N8.out.later B0.out)).mono ?_); rintro e z1 ⟨rfl, hb⟩; have B1 := Lib.hid (B0.out.trans (hb.mono B0.out.size)); have Q1 := Lib.hid (HQ.out _ B1.out); clear hb)
          | ((with_reducible refine (HRf.out _ (HD.out _ B1.out)).mono ?_); rintro e z2 ⟨a9, b9, c9, d9, rfl, p1, p2, hb⟩; have B2 := Lib.hid (B1.out.trans (hb.mono B1.out.size)); have Q2 := Lib.hid (HQ.out _ B2.out); have P9 := Lib.hid (And.intro p1 p2); clear p1 p2; clear hb)
          | ((with_reducible refine (HEq.out a5 b5 a9 b9 c5 d5 c9 d9 _ (O8.out.1.later B2.out) (O8.out.2.later B2.out) P9.out.1 P9.out.2).mono ?_); rintro e z3 ⟨rfl, hb⟩; have B3 := Lib.hid (B2.out.trans (hb.mono B2.out.size)); have Q3 := Lib.hid (HQ.out _ B3.out); clear hb))
      go_wp2_with fail
      go_ret
      exact ⟨rfl, HD.out _ B3.out⟩
theorem lcod_any (S M : List Int) (L : Int) (aS aM : Option Addr) (cS cM : Nat) (w : World) (ht : Pow10 w) (_ : S.length ≤ maxLen) (_ : M.length ≤ maxLen) (_ : (Lit.int .i64 L).wf = true) (hS : IntsAt w aS S) (hM : IntsAt w aM M) :
    Calls Tryd.prog 6 #[.agg #[.slice aS S.length cS, .slice aM M.length cM, .int .i64 L]] w fun e w' => e = .returned (.bool true) ∧ Below w.heap.size w w' := by
  cases hg : greatB S M L
  · cases hv : vldB S M L
    · exact lcod_2 S M L aS aM cS cM w ht hg hv hS hM
    · exact lcod_3 S M L aS aM cS cM w ht hg hv hS hM
  · exact lcod_1 S M L aS aM cS cM w ht hg
end Go.Proofs.YtmhhjchnjaefhaaDoor

