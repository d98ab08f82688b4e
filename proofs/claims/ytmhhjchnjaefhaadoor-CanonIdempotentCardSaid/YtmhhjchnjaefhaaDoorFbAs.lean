/- The walk of the law CanonInvariant. CanonInvariant: renumbering the crossings does not change the code, the key, the form, or the number of symmetries; for all diagrams and lists of numbers (the law itself looks at 20 crossings at most). Plain: a renumbered diagram has as many faces, strands and parts. -/
import Derived.WalkKit
import Derived.WalkSpells
import Derived.WalkLawsBesides
import Derived.Deep.AppendSrc
import Derived.Deep.LoopGhost
import Derived.Deep.QuietTactic
import Derived.Deep.RegionWith
import Derived.Deep.DeepMust
import Derived.Deep.DeepFit
import Derived.BigQuiet
import Derived.Lib.Hide
import Derived.Outline
import Derived.Test.YtmhhjchnjaefhaaDoorProg
import Derived.Deep.Matrix
import Derived.Deep.DeepCutAuto
import Derived.Deep.RegionLaw
import Derived.Deep.RegionHeld3
import Derived.Lib.SliceRun
import Derived.Shelf.Strings.Builder1
import Derived.Shelf.Small.Wraps
import Derived.Shelf.Strings.BuilderF
import Derived.Shelf.Strings.BuilderK
import Derived.Shelf.Strconv.Itoa0
import Derived.Shelf.Strconv.Itoa1
import Derived.Shelf.LaysM
import Derived.Shelf.Strconv.Itoa2
import Derived.Shelf.Strconv.Itoa3
import Derived.Shelf.Slices.Equal
import Derived.Ground.Names2Prog
import Derived.Shelf.Slices.Clone
import Derived.Shelf.Slices.SearchI
import Derived.Shelf.Slices.Empties2
import Derived.Ground.SlgnProg
import Derived.Shelf.SlicesE.Clone
import Derived.Sort.OwnSortedInts
import Derived.Shelf.Small.Bits
import Derived.Shelf.Sort.Plain
import Derived.Shelf.Slices.Turned
import Derived.Shelf.Slices.CompactI
import Derived.Shelf.Slices.Cells
import Derived.Shelf.Slices.In.SortNone
import Derived.Lib.AppendZeros
import Derived.Deep.RegionHeld
import Derived.Lib.Builder
import Derived.Lib.AppendStr
import Derived.Lib.Walk
import Derived.Laws.Externs
import Derived.Lib.AppendIntMem
import Derived.Test.YtmhhjchnjaefhaaDoorCards
import Derived.Test.YtmhhjchnjaefhaaDoorTie
import Derived.LaidMore
import Derived.SevenTiedAt
import Derived.Stop.Joined
import Derived.Stop.LaidErr
import Derived.Lib.LaidTab
import Derived.Test.YtmhhjchnjaefhaaDoorRows
import Derived.ProofKit
import Derived.OpenShut
import Derived.ShutString
import Derived.ChangeOld
import Derived.Below
import Derived.Lib.SmallJoins
import Derived.Test.YtmhhjchnjaefhaaDoorFbAa
import Derived.Test.YtmhhjchnjaefhaaDoorFbAb
import Derived.Test.YtmhhjchnjaefhaaDoorFbAc
import Derived.Test.YtmhhjchnjaefhaaDoorFbAd
import Derived.Test.YtmhhjchnjaefhaaDoorFbAe
import Derived.Test.YtmhhjchnjaefhaaDoorFbAf
import Derived.Test.YtmhhjchnjaefhaaDoorFbAg
import Derived.Test.YtmhhjchnjaefhaaDoorFbAh
import Derived.Test.YtmhhjchnjaefhaaDoorFbAi
import Derived.Test.YtmhhjchnjaefhaaDoorFbAj
import Derived.Test.YtmhhjchnjaefhaaDoorFbAk
import Derived.Test.YtmhhjchnjaefhaaDoorFbAl
import Derived.Test.YtmhhjchnjaefhaaDoorFbAm
import Derived.Test.YtmhhjchnjaefhaaDoorFbAn
import Derived.Test.YtmhhjchnjaefhaaDoorFbAo
import Derived.Test.YtmhhjchnjaefhaaDoorFbAp
import Derived.Test.YtmhhjchnjaefhaaDoorFbAq
import Derived.Test.YtmhhjchnjaefhaaDoorFbAr
namespace Go.Proofs.YtmhhjchnjaefhaaDoor
open Go Go.RowKit
/-- A renumbered diagram: all that canon tells of it is the same. -/
theorem renum_all {S M : List Int} {L : Int} (hv : vldB S M L = true) {o : List Nat} (h : o.Perm (List.range S.length)) :
    vldB (partS S o) (partM M o) L = true ∧ (partS S o).length = S.length ∧ (partM M o).length = M.length ∧ codeOf (partS S o) (partM M o) L = codeOf S M L ∧ fmS (partS S o) (partM M o) = fmS S M ∧ fmM (partS S o) (partM M o) = fmM S M ∧ symV (partS S o) (partM M o) (partS S o).length = symV S M S.length := by
  have hs := vldB_shape hv
  have hl : o.length = S.length := by have := h.length_eq; rwa [List.length_range] at this
  have hlS : (partS S o).length = S.length := by rw [partS_len, hl]
  have hp := pinf_renum hv h
  have hc := codes_perm hp
  refine ⟨part_valid hv (whole_perm hs.mates h) hs.lo hs.hi, hlS, by rw [partM_len, hl, hs.len], code_renum hv h, ?_, ?_, ?_⟩
  · unfold fmS; rw [hlS, hc]
  · unfold fmM; rw [hlS, hc]
  · rw [hlS]; exact (symV_perm hp).symm
theorem fm_len {S M : List Int} {L : Int} (hv : vldB S M L = true) : (fmS S M).length = S.length ∧ (fmM S M).length = M.length := by
  have hs := vldB_shape hv
  obtain ⟨ys, hy⟩ := srt_some ((grpOf M S.length).map (pieOf S M S.length))
  obtain ⟨f1, f2, f3⟩ := form_plain hs hy
  have hl : (flO ys).length = S.length := by have := f1.length_eq; rwa [List.length_range] at this
  exact ⟨by rw [← f2, partS_len, hl], by rw [← f3, partM_len, hl, hs.len]⟩
set_option maxRecDepth 100000 in
set_option maxHeartbeats 4000000 in
theorem linv_great (S M : List Int) (L : Int) (aS aM : Option Addr) (cS cM : Nat) (aO : Option Addr) (cO : Nat) (O : List Int) (w : World) (ht : Pow10 w) (hg : greatB S M L = true) :
    Calls Tryd.prog 7 #[.agg #[.slice aS S.length cS, .slice aM M.length cM, .int .i64 L], .slice aO O.length cO] w fun e w' => e = .returned (.bool true) ∧ Below w.heap.size w w' := by
  have HA : Hid (∀ W', Below w.heap.size w W' → Calls Tryd.prog 11 #[] W' fun e w' => e = .returned (.bool true) ∧ Below W'.heap.size W' w') := Lib.hid fun W' h => awake_any W' (ht.later h)
  have HG : Hid (∀ W', Calls Tryd.prog 12 #[.agg #[.slice aS S.length cS, .slice aM M.length cM, .int .i64 L]] W' fun e w' => e = .returned (.bool true) ∧ Below W'.heap.size W' w') := Lib.hid fun W' => by
    have g := great_any S M L aS aM cS cM W'
    rw [hg] at g; exact g
  have H0 := Lib.hid ((HH.start w).alloc #[.slice aS S.length cS, .slice aM M.length cM, .int .i64 L] 24 rfl rfl)
  clear hg ht
  generalize S.length = n at *
  generalize M.length = N at *
  generalize O.length = l at *
  go_enter Tryd.func7, Tryd.ntmps7
  go_wp2_with fail
  refine (HA.out _ H0.out.below).mono ?_
  rintro e w1 ⟨rfl, hb⟩
  have H1 := Lib.hid (H0.out.call hb)
  clear hb H0 
  have k00 := H1.out.cell (k := 0) (i := 0) rfl rfl
  have k01 := H1.out.cell (k := 0) (i := 1) rfl rfl
  have k02 := H1.out.cell (k := 0) (i := 2) rfl rfl
  go_wp2_with fail
  clear k00 k01 k02
  refine (HG.out _).mono ?_
  rintro e w2 ⟨rfl, hb⟩
  have H2 := Lib.hid (H1.out.call hb)
  clear hb H1 
  go_wp2_with fail
  go_ret
  exact ⟨rfl, H2.out.below⟩
set_option maxRecDepth 100000 in
set_option maxHeartbeats 4000000 in
theorem linv_long (S M : List Int) (L : Int) (aS aM : Option Addr) (cS cM : Nat) (aO : Option Addr) (cO : Nat) (O : List Int) (w : World) (ht : Pow10 w) (hg : greatB S M L = false) (hl : 30 < O.length) :
    Calls Tryd.prog 7 #[.agg #[.slice aS S.length cS, .slice aM M.length cM, .int .i64 L], .slice aO O.length cO] w fun e w' => e = .returned (.bool true) ∧ Below w.heap.size w w' := by
  have HA : Hid (∀ W', Below w.heap.size w W' → Calls Tryd.prog 11 #[] W' fun e w' => e = .returned (.bool true) ∧ Below W'.heap.size W' w') := Lib.hid fun W' h => awake_any W' (ht.later h)
  have HG : Hid (∀ W', Calls Tryd.prog 12 #[.agg #[.slice aS S.length cS, .slice aM M.length cM, .int .i64 L]] W' fun e w' => e = .returned (.bool false) ∧ Below W'.heap.size W' w') := Lib.hid fun W' => by
    have g := great_any S M L aS aM cS cM W'
    rw [hg] at g; exact g
  have t1 : decide ((30 : Int) < (O.length : Int)) = true := decide_eq_true (by omega)
  have t2 : decide (30 < O.length) = true := decide_eq_true hl
  have H0 := Lib.hid ((HH.start w).alloc #[.slice aS S.length cS, .slice aM M.length cM, .int .i64 L] 24 rfl rfl)
  clear hg ht hl
  generalize S.length = n at *
  generalize M.length = N at *
  generalize O.length = l at *
  go_enter Tryd.func7, Tryd.ntmps7
  go_wp2_with fail
  refine (HA.out _ H0.out.below).mono ?_
  rintro e w1 ⟨rfl, hb⟩
  have H1 := Lib.hid (H0.out.call hb)
  clear hb H0 
  have k00 := H1.out.cell (k := 0) (i := 0) rfl rfl
  have k01 := H1.out.cell (k := 0) (i := 1) rfl rfl
  have k02 := H1.out.cell (k := 0) (i := 2) rfl rfl
  go_wp2_with fail
  clear k00 k01 k02
  refine (HG.out _).mono ?_
  rintro e w2 ⟨rfl, hb⟩
  have H2 := Lib.hid (H1.out.call hb)
  clear hb H1 
  go_wp2_with fail
  go_ret
  exact ⟨rfl, H2.out.below⟩
set_option maxRecDepth 100000 in
set_option maxHeartbeats 4000000 in
theorem linv_bad (S M : List Int) (L : Int) (aS aM : Option Addr) (cS cM : Nat) (aO : Option Addr) (cO : Nat) (O : List Int) (w : World) (ht : Pow10 w) (hg : greatB S M L = false) (hl : O.length ≤ 30) (hv : vldB S M L = false) (hS : IntsAt w aS S) (hM : IntsAt w aM M) (_ : IntsAt w aO O) :
    Calls Tryd.prog 7 #[.agg #[.slice aS S.length cS, .slice aM M.length cM, .int .i64 L], .slice aO O.length cO] w fun e w' => e = .returned (.bool true) ∧ Below w.heap.size w w' := by
  have HA : Hid (∀ W', Below w.heap.size w W' → Calls Tryd.prog 11 #[] W' fun e w' => e = .returned (.bool true) ∧ Below W'.heap.size W' w') := Lib.hid fun W' h => awake_any W' (ht.later h)
  have HG : Hid (∀ W', Calls Tryd.prog 12 #[.agg #[.slice aS S.length cS, .slice aM M.length cM, .int .i64 L]] W' fun e w' => e = .returned (.bool false) ∧ Below W'.heap.size W' w') := Lib.hid fun W' => by
    have g := great_any S M L aS aM cS cM W'
    rw [hg] at g; exact g
  obtain ⟨hg1, hg2⟩ := greatB_no hg
  have t1 : decide ((30 : Int) < (O.length : Int)) = false := decide_eq_false (by omega)
  have t2 : decide (30 < O.length) = false := decide_eq_false (by omega)
  have HR : Hid (∀ W', Below w.heap.size w W' → Calls Tryd.prog 21 #[.agg #[.slice aS S.length cS, .slice aM M.length cM, .int .i64 L], .slice aO O.length cO] W' fun e w' => e = .returned (.tuple #[.agg #[.slice none 0 0, .slice none 0 0, .int .i64 0], .int .i64 1]) ∧ Below W'.heap.size W' w') := Lib.hid fun W' h => renum_bad S M L aS aM cS cM aO cO O.length W' (by omega) (by omega) hv (hS.later h) (hM.later h)
  have H0 := Lib.hid ((HH.start w).alloc #[.slice aS S.length cS, .slice aM M.length cM, .int .i64 L] 24 rfl rfl)
  clear hg ht hS hM hl hv
  generalize S.length = n at *
  generalize M.length = N at *
  generalize O.length = l at *
  go_enter Tryd.func7, Tryd.ntmps7
  go_wp2_with fail
  refine (HA.out _ H0.out.below).mono ?_
  rintro e w1 ⟨rfl, hb⟩
  have H1 := Lib.hid (H0.out.call hb)
  clear hb H0 
  have k00 := H1.out.cell (k := 0) (i := 0) rfl rfl
  have k01 := H1.out.cell (k := 0) (i := 1) rfl rfl
  have k02 := H1.out.cell (k := 0) (i := 2) rfl rfl
  go_wp2_with fail
  clear k00 k01 k02
  refine (HG.out _).mono ?_
  rintro e w2 ⟨rfl, hb⟩
  have H2 := Lib.hid (H1.out.call hb)
  clear hb H1 
  have k00 := H2.out.cell (k := 0) (i := 0) rfl rfl
  have k01 := H2.out.cell (k := 0) (i := 1) rfl rfl
  have k02 := H2.out.cell (k := 0) (i := 2) rfl rfl
  go_wp2_with fail
  clear k00 k01 k02
  refine (HR.out _ H2.out.below).mono ?_
  rintro e w3 ⟨rfl, hb⟩
  have H3 := Lib.hid (H2.out.call hb)
  clear hb H2 
  have HB := Lib.hid (H3.out.below.alloc H3.out.below.size (.cells #[.slice none 0 0, .slice none 0 0, .int .i64 0] 24))
  go_wp2_with fail
  go_ret
  exact ⟨rfl, HB.out⟩
set_option maxRecDepth 100000 in
set_option maxHeartbeats 4000000 in
theorem linv_no (S M : List Int) (L : Int) (aS aM : Option Addr) (cS cM : Nat) (aO : Option Addr) (cO : Nat) (O : List Int) (w : World) (ht : Pow10 w) (hg : greatB S M L = false) (hl : O.length ≤ 30) (hv : vldB S M L = true) (ho : ¬ Ord O S.length) (hS : IntsAt w aS S) (hM : IntsAt w aM M) (hO : IntsAt w aO O) :
    Calls Tryd.prog 7 #[.agg #[.slice aS S.length cS, .slice aM M.length cM, .int .i64 L], .slice aO O.length cO] w fun e w' => e = .returned (.bool true) ∧ Below w.heap.size w w' := by
  have HA : Hid (∀ W', Below w.heap.size w W' → Calls Tryd.prog 11 #[] W' fun e w' => e = .returned (.bool true) ∧ Below W'.heap.size W' w') := Lib.hid fun W' h => awake_any W' (ht.later h)
  have HG : Hid (∀ W', Calls Tryd.prog 12 #[.agg #[.slice aS S.length cS, .slice aM M.length cM, .int .i64 L]] W' fun e w' => e = .returned (.bool false) ∧ Below W'.heap.size W' w') := Lib.hid fun W' => by
    have g := great_any S M L aS aM cS cM W'
    rw [hg] at g; exact g
  obtain ⟨hg1, hg2⟩ := greatB_no hg
  have t1 : decide ((30 : Int) < (O.length : Int)) = false := decide_eq_false (by omega)
  have t2 : decide (30 < O.length) = false := decide_eq_false (by omega)
  have HR : Hid (∀ W', Below w.heap.size w W' → Calls Tryd.prog 21 #[.agg #[.slice aS S.length cS, .slice aM M.length cM, .int .i64 L], .slice aO O.length cO] W' fun e w' => e = .returned (.tuple #[.agg #[.slice none 0 0, .slice none 0 0, .int .i64 0], .int .i64 2]) ∧ Below W'.heap.size W' w') := Lib.hid fun W' h => renum_no S M L aS aM cS cM aO cO O W' hv (by omega) ho (hS.later h) (hM.later h) (hO.later h)
  have H0 := Lib.hid ((HH.start w).alloc #[.slice aS S.length cS, .slice aM M.length cM, .int .i64 L] 24 rfl rfl)
  clear hg ht hS hM hO hl hv ho
  generalize S.length = n at *
  generalize M.length = N at *
  generalize O.length = l at *
  go_enter Tryd.func7, Tryd.ntmps7
  go_wp2_with fail
  refine (HA.out _ H0.out.below).mono ?_
  rintro e w1 ⟨rfl, hb⟩
  have H1 := Lib.hid (H0.out.call hb)
  clear hb H0 
  have k00 := H1.out.cell (k := 0) (i := 0) rfl rfl
  have k01 := H1.out.cell (k := 0) (i := 1) rfl rfl
  have k02 := H1.out.cell (k := 0) (i := 2) rfl rfl
  go_wp2_with fail
  clear k00 k01 k02
  refine (HG.out _).mono ?_
  rintro e w2 ⟨rfl, hb⟩
  have H2 := Lib.hid (H1.out.call hb)
  clear hb H1 
  have k00 := H2.out.cell (k := 0) (i := 0) rfl rfl
  have k01 := H2.out.cell (k := 0) (i := 1) rfl rfl
  have k02 := H2.out.cell (k := 0) (i := 2) rfl rfl
  go_wp2_with fail
  clear k00 k01 k02
  refine (HR.out _ H2.out.below).mono ?_
  rintro e w3 ⟨rfl, hb⟩
  have H3 := Lib.hid (H2.out.call hb)
  clear hb H2 
  have HB := Lib.hid (H3.out.below.alloc H3.out.below.size (.cells #[.slice none 0 0, .slice none 0 0, .int .i64 0] 24))
  go_wp2_with fail
  go_ret
  exact ⟨rfl, HB.out⟩
set_option maxRecDepth 100000 in
set_option maxHeartbeats 8000000 in
theorem linv_yes (S M : List Int) (L : Int) (aS aM : Option Addr) (cS cM : Nat) (aO : Option Addr) (cO : Nat) (o : List Nat) (w : World) (ht : Pow10 w) (hg : greatB S M L = false) (hl : (nats o).length ≤ 30) (hv : vldB S M L = true) (ho : o.Perm (List.range S.length)) (hS : IntsAt w aS S) (hM : IntsAt w aM M) (hO : IntsAt w aO (nats o)) :
    Calls Tryd.prog 7 #[.agg #[.slice aS S.length cS, .slice aM M.length cM, .int .i64 L], .slice aO (nats o).length cO] w fun e w' => e = .returned (.bool true) ∧ Below w.heap.size w w' := by
  have HA : Hid (∀ W', Below w.heap.size w W' → Calls Tryd.prog 11 #[] W' fun e w' => e = .returned (.bool true) ∧ Below W'.heap.size W' w') := Lib.hid fun W' h => awake_any W' (ht.later h)
  have HG : Hid (∀ W', Calls Tryd.prog 12 #[.agg #[.slice aS S.length cS, .slice aM M.length cM, .int .i64 L]] W' fun e w' => e = .returned (.bool false) ∧ Below W'.heap.size W' w') := Lib.hid fun W' => by
    have g := great_any S M L aS aM cS cM W'
    rw [hg] at g; exact g
  obtain ⟨hg1, hg2⟩ := greatB_no hg
  have t1 : decide ((30 : Int) < ((nats o).length : Int)) = false := decide_eq_false (by omega)
  have t2 : decide (30 < (nats o).length) = false := decide_eq_false (by omega)
  obtain ⟨pv, pl, pl2, pc, pf, pf2, py⟩ := renum_all hv ho
  obtain ⟨fl1, fl2⟩ := fm_len hv
  have HR : Hid (∀ W', Below w.heap.size w W' → Calls Tryd.prog 21 #[.agg #[.slice aS S.length cS, .slice aM M.length cM, .int .i64 L], .slice aO (nats o).length cO] W' fun e w' => ∃ a b c d, e = .returned (.tuple #[.agg #[.slice a S.length c, .slice b M.length d, .int .i64 L], .int .i64 0]) ∧ Own w' W'.heap.size 3 a c (ints (partS S o)) ∧ Own w' W'.heap.size 3 b d (ints (partM M o)) ∧ Below W'.heap.size W' w') := Lib.hid fun W' h => renum_yes S M L aS aM cS cM aO cO o W' hv ho (hS.later h) (hM.later h) (hO.later h)
  have HFd : Hid (∀ W', Below w.heap.size w W' → Calls Tryd.prog 26 #[.agg #[.slice aS S.length cS, .slice aM M.length cM, .int .i64 L]] W' fun e w' => ∃ a b c d, e = .returned (.tuple #[.agg #[.slice a S.length c, .slice b M.length d, .int .i64 L], .int .i64 0]) ∧ Own w' W'.heap.size 3 a c (ints (fmS S M)) ∧ Own w' W'.heap.size 3 b d (ints (fmM S M)) ∧ Below W'.heap.size W' w') := Lib.hid fun W' h => form_yes S M L aS aM cS cM W' hv hg1 (hS.later h) (hM.later h)
  have HFx : Hid (∀ (a b : Option Addr) (c d : Nat) W', IntsAt W' a (partS S o) → IntsAt W' b (partM M o) → Calls Tryd.prog 26 #[.agg #[.slice a S.length c, .slice b M.length d, .int .i64 L]] W' fun e w' => ∃ a b c d, e = .returned (.tuple #[.agg #[.slice a S.length c, .slice b M.length d, .int .i64 L], .int .i64 0]) ∧ Own w' W'.heap.size 3 a c (ints (fmS S M)) ∧ Own w' W'.heap.size 3 b d (ints (fmM S M)) ∧ Below W'.heap.size W' w') := Lib.hid fun a b c d W' h1 h2 => by
    have g := form_yes (partS S o) (partM M o) L a b c d W' pv (by omega) h1 h2
    rw [pl, pl2, pf, pf2] at g; exact g
  have HEq : Hid (∀ (a b a' b' : Option Addr) (c d c' d' : Nat) W', IntsAt W' a (fmS S M) → IntsAt W' b (fmM S M) → IntsAt W' a' (fmS S M) → IntsAt W' b' (fmM S M) → Calls Tryd.prog 22 #[.agg #[.slice a S.length c, .slice b M.length d, .int .i64 L], .agg #[.slice a' S.length c', .slice b' M.length d', .int .i64 L]] W' fun e w' => e = .returned (.bool true) ∧ Below W'.heap.size W' w') := Lib.hid fun a b a' b' c d c' d' W' h1 h2 h3 h4 => by
    have g := equalD_any (fmS S M) (fmM S M) (fmS S M) (fmM S M) L L a b a' b' c d c' d' W' (by omega) (by omega) h1 h2 h3 h4
    rw [fl1, fl2, eqD_same'] at g; exact g
  have HSm : Hid (∀ (a b : Option Addr) (c d : Nat) W', Below w.heap.size w W' → IntsAt W' a (partS S o) → IntsAt W' b (partM M o) → Calls Tryd.prog 14 #[.agg #[.slice aS S.length cS, .slice aM M.length cM, .int .i64 L], .agg #[.slice a S.length c, .slice b M.length d, .int .i64 L]] W' fun e w' => e = .returned (.bool true) ∧ Below W'.heap.size W' w') := Lib.hid fun a b c d W' h h1 h2 => by
    have g := csame_any S M L aS aM cS cM (partS S o) (partM M o) L a b c d W' (by omega) (by omega) (by omega) (by omega) hg1 (by omega) (hS.later h) (hM.later h) h1 h2
    have e : cSame S M L (partS S o) (partM M o) L = true := by unfold cSame; rw [hv, pv, pc, decide_eq_true rfl]; rfl
    rw [e, pl, pl2] at g; exact g
  have HKd : Hid (∀ W', Below w.heap.size w W' → Calls Tryd.prog 24 #[.agg #[.slice aS S.length cS, .slice aM M.length cM, .int .i64 L]] W' fun e w' => e = .returned (.string ⟨(keyOf (codeOf S M L)).toArray⟩) ∧ Below W'.heap.size W' w') := Lib.hid fun W' h => by
    have g := key_any S M L aS aM cS cM W' hg1 (by omega) (ht.later h) (hS.later h) (hM.later h)
    rw [cdV_yes hv] at g; exact g
  have HKx : Hid (∀ (a b : Option Addr) (c d : Nat) W', Below w.heap.size w W' → IntsAt W' a (partS S o) → IntsAt W' b (partM M o) → Calls Tryd.prog 24 #[.agg #[.slice a S.length c, .slice b M.length d, .int .i64 L]] W' fun e w' => e = .returned (.string ⟨(keyOf (codeOf S M L)).toArray⟩) ∧ Below W'.heap.size W' w') := Lib.hid fun a b c d W' h h1 h2 => by
    have g := key_any (partS S o) (partM M o) L a b c d W' (by omega) (by omega) (ht.later h) h1 h2
    rw [cdV_yes pv, pc, pl, pl2] at g; exact g
  have HYd : Hid (∀ W', Below w.heap.size w W' → Calls Tryd.prog 15 #[.agg #[.slice aS S.length cS, .slice aM M.length cM, .int .i64 L]] W' fun e w' => e = .returned (.int .i64 (symV S M S.length)) ∧ Below W'.heap.size W' w') := Lib.hid fun W' h => sym_yes S M L aS aM cS cM W' hv hg1 (hS.later h) (hM.later h)
  have HYx : Hid (∀ (a b : Option Addr) (c d : Nat) W', IntsAt W' a (partS S o) → IntsAt W' b (partM M o) → Calls Tryd.prog 15 #[.agg #[.slice a S.length c, .slice b M.length d, .int .i64 L]] W' fun e w' => e = .returned (.int .i64 (symV S M S.length)) ∧ Below W'.heap.size W' w') := Lib.hid fun a b c d W' h1 h2 => by
    have g := sym_yes (partS S o) (partM M o) L a b c d W' pv (by omega) h1 h2
    rw [py, pl, pl2] at g; exact g
  have H0 := Lib.hid ((HH.start w).alloc #[.slice aS S.length cS, .slice aM M.length cM, .int .i64 L] 24 rfl rfl)
  clear hg ht hS hM hO hl hv ho pv pl pl2 pc pf pf2 py fl1 fl2
  generalize symV S M S.length = SV at *
  generalize keyOf (codeOf S M L) = KY at *
  generalize partS S o = PS at *
  generalize partM M o = PM at *
  generalize fmS S M = FSz at *
  generalize fmM S M = FM at *
  generalize S.length = n at *
  generalize M.length = N at *
  generalize (nats o).length = l at *
  go_enter Tryd.func7, Tryd.ntmps7
  go_wp2_with fail
  refine (HA.out _ H0.out.below).mono ?_
  rintro e w1 ⟨rfl, hb⟩
  have H1 := Lib.hid (H0.out.call hb)
  clear hb H0 
  have k00 := H1.out.cell (k := 0) (i := 0) rfl rfl
  have k01 := H1.out.cell (k := 0) (i := 1) rfl rfl
  have k02 := H1.out.cell (k := 0) (i := 2) rfl rfl
  go_wp2_with fail
  clear k00 k01 k02
  refine (HG.out _).mono ?_
  rintro e w2 ⟨rfl, hb⟩
  have H2 := Lib.hid (H1.out.call hb)
  clear hb H1 
  have k00 := H2.out.cell (k := 0) (i := 0) rfl rfl
  have k01 := H2.out.cell (k := 0) (i := 1) rfl rfl
  have k02 := H2.out.cell (k := 0) (i := 2) rfl rfl
  go_wp2_with fail
  clear k00 k01 k02
  refine (HR.out _ H2.out.below).mono ?_
  rintro e w3 ⟨a5, b5, c5, d5, rfl, ho1, ho2, hb⟩
  have H3' := Lib.hid (H2.out.call hb)
  have N5 := Lib.hid (And.intro ho1.ints ho2.ints)
  clear ho1 ho2 hb H2
  have H3 := Lib.hid (H3'.out.alloc #[.slice a5 n c5, .slice b5 N d5, .int .i64 L] 24 (b := w3.heap.size) rfl rfl)
  have M5 := Lib.hid (And.intro (N5.out.1.later ((Below.refl _ _).alloc (Nat.le_refl _) (.cells #[.slice a5 n c5, .slice b5 N d5, .int .i64 L] 24))) (N5.out.2.later ((Below.refl _ _).alloc (Nat.le_refl _) (.cells #[.slice a5 n c5, .slice b5 N d5, .int .i64 L] 24))))
  go_upto_region 8 with fail
  clear N5 H3'
  generalize w3.alloc (.cells #[.slice a5 n c5, .slice b5 N d5, .int .i64 L] 24) = v3 at *
  generalize w3.heap.size = q5 at *
  have k00 := H3.out.cell (k := 0) (i := 0) rfl rfl
  have k01 := H3.out.cell (k := 0) (i := 1) rfl rfl
  have k02 := H3.out.cell (k := 0) (i := 2) rfl rfl
  go_wp2_with fail
  clear k00 k01 k02
  refine (HFd.out _ H3.out.below).mono ?_
  rintro e w4 ⟨a7, b7, c7, d7, rfl, ho1, ho2, hb⟩
  have H4' := Lib.hid (H3.out.call hb)
  have N7 := Lib.hid (And.intro ho1.ints ho2.ints)
  have N5 := Lib.hid (And.intro (M5.out.1.later hb) (M5.out.2.later hb))
  clear ho1 ho2 hb H3
  have H4 := Lib.hid (H4'.out.alloc #[.slice a7 n c7, .slice b7 N d7, .int .i64 L] 24 (b := w4.heap.size) rfl rfl)
  clear M5
  have M5 := Lib.hid (And.intro (N5.out.1.later ((Below.refl _ _).alloc (Nat.le_refl _) (.cells #[.slice a7 n c7, .slice b7 N d7, .int .i64 L] 24))) (N5.out.2.later ((Below.refl _ _).alloc (Nat.le_refl _) (.cells #[.slice a7 n c7, .slice b7 N d7, .int .i64 L] 24))))
  have M7 := Lib.hid (And.intro (N7.out.1.later ((Below.refl _ _).alloc (Nat.le_refl _) (.cells #[.slice a7 n c7, .slice b7 N d7, .int .i64 L] 24))) (N7.out.2.later ((Below.refl _ _).alloc (Nat.le_refl _) (.cells #[.slice a7 n c7, .slice b7 N d7, .int .i64 L] 24))))
  go_upto_region 9 with fail
  clear N5 N7 H4'
  generalize w4.alloc (.cells #[.slice a7 n c7, .slice b7 N d7, .int .i64 L] 24) = v4 at *
  generalize w4.heap.size = q7 at *
  have k10 := H4.out.cell (k := 1) (i := 0) rfl rfl
  have k11 := H4.out.cell (k := 1) (i := 1) rfl rfl
  have k12 := H4.out.cell (k := 1) (i := 2) rfl rfl
  go_wp2_with fail
  clear k10 k11 k12
  refine (HFx.out a5 b5 c5 d5 _ M5.out.1 M5.out.2).mono ?_
  rintro e w5 ⟨a9, b9, c9, d9, rfl, ho1, ho2, hb⟩
  have H5' := Lib.hid (H4.out.call hb)
  have N9 := Lib.hid (And.intro ho1.ints ho2.ints)
  have N5 := Lib.hid (And.intro (M5.out.1.later hb) (M5.out.2.later hb))
  have N7 := Lib.hid (And.intro (M7.out.1.later hb) (M7.out.2.later hb))
  clear ho1 ho2 hb H4
  have H5 := Lib.hid (H5'.out.alloc #[.slice a9 n c9, .slice b9 N d9, .int .i64 L] 24 (b := w5.heap.size) rfl rfl)
  clear M5 M7
  have M5 := Lib.hid (And.intro (N5.out.1.later ((Below.refl _ _).alloc (Nat.le_refl _) (.cells #[.slice a9 n c9, .slice b9 N d9, .int .i64 L] 24))) (N5.out.2.later ((Below.refl _ _).alloc (Nat.le_refl _) (.cells #[.slice a9 n c9, .slice b9 N d9, .int .i64 L] 24))))
  have M7 := Lib.hid (And.intro (N7.out.1.later ((Below.refl _ _).alloc (Nat.le_refl _) (.cells #[.slice a9 n c9, .slice b9 N d9, .int .i64 L] 24))) (N7.out.2.later ((Below.refl _ _).alloc (Nat.le_refl _) (.cells #[.slice a9 n c9, .slice b9 N d9, .int .i64 L] 24))))
  have M9 := Lib.hid (And.intro (N9.out.1.later ((Below.refl _ _).alloc (Nat.le_refl _) (.cells #[.slice a9 n c9, .slice b9 N d9, .int .i64 L] 24))) (N9.out.2.later ((Below.refl _ _).alloc (Nat.le_refl _) (.cells #[.slice a9 n c9, .slice b9 N d9, .int .i64 L] 24))))
  go_upto_region 10 with fail
  clear N5 N7 N9 H5'
  generalize w5.alloc (.cells #[.slice a9 n c9, .slice b9 N d9, .int .i64 L] 24) = v5 at *
  generalize w5.heap.size = q9 at *
  have HQ : Hid (∀ W', Below v5.heap.size v5 W' → W'.cell? ⟨w.heap.size, 0, none⟩ = some (.slice aS n cS) ∧ W'.cell? ⟨w.heap.size, 1, none⟩ = some (.slice aM N cM) ∧ W'.cell? ⟨w.heap.size, 2, none⟩ = some (.int .i64 L) ∧ W'.cell? ⟨q5, 0, none⟩ = some (.slice a5 n c5) ∧ W'.cell? ⟨q5, 1, none⟩ = some (.slice b5 N d5) ∧ W'.cell? ⟨q5, 2, none⟩ = some (.int .i64 L) ∧ W'.cell? ⟨q7, 0, none⟩ = some (.slice a7 n c7) ∧ W'.cell? ⟨q7, 1, none⟩ = some (.slice b7 N d7) ∧ W'.cell? ⟨q7, 2, none⟩ = some (.int .i64 L) ∧ W'.cell? ⟨q9, 0, none⟩ = some (.slice a9 n c9) ∧ W'.cell? ⟨q9, 1, none⟩ = some (.slice b9 N d9) ∧ W'.cell? ⟨q9, 2, none⟩ = some (.int .i64 L)) := Lib.hid fun W' h => by
    have h1 := H5.out.call h
    exact ⟨(h1.cell (k := 0) (i := 0) rfl rfl), (h1.cell (k := 0) (i := 1) rfl rfl), (h1.cell (k := 0) (i := 2) rfl rfl), (h1.cell (k := 1) (i := 0) rfl rfl), (h1.cell (k := 1) (i := 1) rfl rfl), (h1.cell (k := 1) (i := 2) rfl rfl), (h1.cell (k := 2) (i := 0) rfl rfl), (h1.cell (k := 2) (i := 1) rfl rfl), (h1.cell (k := 2) (i := 2) rfl rfl), (h1.cell (k := 3) (i := 0) rfl rfl), (h1.cell (k := 3) (i := 1) rfl rfl), (h1.cell (k := 3) (i := 2) rfl rfl)⟩
  have B0 : Hid (Below v5.heap.size v5 v5.drew) := Lib.hid (Below.refl _ _).drew
  have Q0 := Lib.hid (HQ.out _ B0.out)
  have HD : Hid (∀ W', Below v5.heap.size v5 W' → Below w.heap.size w W') := Lib.hid fun W' h => below_of H5.out.below h H5.out.below.size
  go_region_held3 (fun W' => W'.cell? ⟨w.heap.size, 0, none⟩ = some (.slice aS n cS) ∧ W'.cell? ⟨w.heap.size, 1, none⟩ = some (.slice aM N cM) ∧ W'.cell? ⟨w.heap.size, 2, none⟩ = some (.int .i64 L) ∧ W'.cell? ⟨q5, 0, none⟩ = some (.slice a5 n c5) ∧ W'.cell? ⟨q5, 1, none⟩ = some (.slice b5 N d5) ∧ W'.cell? ⟨q5, 2, none⟩ = some (.int .i64 L) ∧ W'.cell? ⟨q7, 0, none⟩ = some (.slice a7 n c7) ∧ W'.cell? ⟨q7, 1, none⟩ = some (.slice b7 N d7) ∧ W'.cell? ⟨q7, 2, none⟩ = some (.int .i64 L) ∧ W'.cell? ⟨q9, 0, none⟩ = some (.slice a9 n c9) ∧ W'.cell? ⟨q9, 1, none⟩ = some (.slice b9 N d9) ∧ W'.cell? ⟨q9, 2, none⟩ = some (.int .i64 L))
    (first
      | with_reducible exact Q0.out
      | with_reducible exact Q1.out
      | with_reducible exact Q2.out
      | with_reducible exact Q3.out
      | with_reducible exact Q4.out
      | with_reducible exact Q5.out
      | with_reducible exact Q6.out)
    (first
      | ((with_reducible refine (HEq.out a7 b7 a9 b9 c7 d7 c9 d9 _ (M7.out.1.later B0.out) (M7.out.2.later B0.out) (M9.out.1.later B0.out) (M9.out.2.later B0.out)).mono ?_); rintro e z1 ⟨rfl, hb⟩; have B1 := Lib.hid (B0.out.trans (hb.mono B0.out.size)); have Q1 := Lib.hid (HQ.out _ B1.out); clear hb)
      | ((with_reducible refine (HSm.out a5 b5 c5 d5 _ (HD.out _ B1.out) (M5.out.1.later B1.out) (M5.out.2.later B1.out)).mono ?_); rintro e z2 ⟨rfl, hb⟩; have B2 := Lib.hid (B1.out.trans (hb.mono B1.out.size)); have Q2 := Lib.hid (HQ.out _ B2.out); clear hb)
      | ((with_reducible refine (HKd.out _ (HD.out _ B2.out)).mono ?_); rintro e z3 ⟨rfl, hb⟩; have B3 := Lib.hid (B2.out.trans (hb.mono B2.out.size)); have Q3 := Lib.hid (HQ.out _ B3.out); clear hb)
      | ((with_reducible refine (HKx.out a5 b5 c5 d5 _ (HD.out _ B3.out) (M5.out.1.later B3.out) (M5.out.2.later B3.out)).mono ?_); rintro e z4 ⟨rfl, hb⟩; have B4 := Lib.hid (B3.out.trans (hb.mono B3.out.size)); have Q4 := Lib.hid (HQ.out _ B4.out); clear hb)
      | ((with_reducible refine (HYd.out _ (HD.out _ B4.out)).mono ?_); rintro e z5 ⟨rfl, hb⟩; have B5 := Lib.hid (B4.out.trans (hb.mono B4.out.size)); have Q5 := Lib.hid (HQ.out _ B5.out); clear hb)
      | ((with_reducible refine (HYx.out a5 b5 c5 d5 _ (M5.out.1.later B5.out) (M5.out.2.later B5.out)).mono ?_); rintro e z6 ⟨rfl, hb⟩; have B6 := Lib.hid (B5.out.trans (hb.mono B5.out.size)); have Q6 := Lib.hid (HQ.out _ B6.out); clear hb))
  go_wp2_with fail
  go_ret
  exact ⟨rfl, HD.out _ B6.out⟩
theorem linv_any (S M : List Int) (L : Int) (aS aM : Option Addr) (cS cM : Nat) (O : List Int) (aO : Option Addr) (cO : Nat) (w : World) (ht : Pow10 w) (_ : S.length ≤ maxLen) (_ : M.length ≤ maxLen) (_ : (Lit.int .i64 L).wf = true) (hS : IntsAt w aS S) (hM : IntsAt w aM M) (_ : O.length ≤ maxLen) (hO : IntsAt w aO O) :
    Calls Tryd.prog 7 #[.agg #[.slice aS S.length cS, .slice aM M.length cM, .int .i64 L], .slice aO O.length cO] w fun e w' => e = .returned (.bool true) ∧ Below w.heap.size w w' := by
  cases hg : greatB S M L
  · by_cases hl : O.length ≤ 30
    · cases hv : vldB S M L
      · exact linv_bad S M L aS aM cS cM aO cO O w ht hg hl hv hS hM hO
      · by_cases ho : Ord O S.length
        · obtain ⟨o, rfl, hp⟩ := ho
          exact linv_yes S M L aS aM cS cM aO cO o w ht hg hl hv hp hS hM hO
        · exact linv_no S M L aS aM cS cM aO cO O w ht hg hl hv ho hS hM hO
    · exact linv_long S M L aS aM cS cM aO cO O w ht hg (by omega)
  · exact linv_great S M L aS aM cS cM aO cO O w ht hg
end Go.Proofs.YtmhhjchnjaefhaaDoor

namespace Go.Proofs.YtmhhjchnjaefhaaDoor
open Go Go.RowKit Go.ChangeShapes Go.WideShapes Go.ChangeAt Go.Joins
theorem canonInvariant_k0 : (Rows.canonInvariantRow.wf (OpenSpec.ofChange Rows.canonInvariantSpec)) = true := by kernel_rfl
theorem canonInvariant_k3 : (Tryd.f7.params.all (Tryd.prog.readableRec ·)) = true := by kernel_rfl
theorem canonInvariant_k4 : (namedTie Tryd.prog Rows.canonInvariantRow.named Rows.canonInvariantSpec.vars) = true := by kernel_rfl
theorem canonInvariant_k5 : (Rows.canonInvariantRow.stops == []) = true := by kernel_rfl
theorem canonInvariant_k7 : (Rows.canonInvariantRow.knobs == []) = true := by kernel_rfl
theorem canonInvariant_k9 : (Rows.canonInvariantRow.inPlace == Tryd.prog.inPlace 7) = true := by kernel_rfl
theorem canonInvariant_k10 : (Rows.canonInvariantRow.unfollowed == Tryd.prog.unfollowed 7) = true := by kernel_rfl
theorem canonInvariant_k11 : (Rows.canonInvariantRow.recurses == Tryd.prog.recurses 7) = true := by kernel_rfl
theorem canonInvariant_k12 : (Rows.canonInvariantRow.named == Tryd.prog.varsNamed 7) = true := by kernel_rfl
theorem canonInvariant_k13 : (Rows.canonInvariantRow.maps == (Tryd.f7.params.toList ++ Rows.canonInvariantSpec.plain.varTypes Tryd.prog).any (Tryd.prog.mapsRec ·)) = true := by kernel_rfl
theorem canonInvariant_k14 : (Rows.canonInvariantRow.ifaces == (Tryd.f7.params.toList ++ Rows.canonInvariantSpec.plain.varTypes Tryd.prog).any (Tryd.prog.ifacesRec ·)) = true := by kernel_rfl
theorem canonInvariant_k15 : (Rows.canonInvariantRow.mapsOut == Tryd.prog.mapsAmong Tryd.f7.resultTypes.toList) = true := by kernel_rfl
theorem canonInvariant_k16 : (Rows.canonInvariantRow.loops == (Tryd.f7.params.toList ++ Rows.canonInvariantSpec.plain.varTypes Tryd.prog).any (Tryd.prog.loopsFrom ·)) = true := by kernel_rfl
theorem canonInvariant_k17 : (Rows.canonInvariantRow.wideKeys == (Tryd.f7.params.toList ++ Rows.canonInvariantSpec.plain.varTypes Tryd.prog ++ Tryd.f7.resultTypes.toList).any (Tryd.prog.wideKeysFrom ·)) = true := by kernel_rfl
theorem canonInvariant_k18 : (Rows.canonInvariantSpec.vars.all (Tryd.prog.varReadable ·)) = true := by kernel_rfl
theorem canonInvariant_k19 : (Tryd.f7.resultTypes.all (fun t => Tryd.prog.readableRec t && decide (t < Tryd.prog.types.size))) = true := by kernel_rfl
theorem canonInvariant_k20 : (Rows.canonInvariantRow.ifacesOut == Tryd.f7.resultTypes.toList.any (Tryd.prog.ifacesRec ·)) = true := by kernel_rfl
theorem canonInvariant_k21 : (Rows.canonInvariantRow.loopsOut == Tryd.f7.resultTypes.toList.any (Tryd.prog.loopsFrom ·)) = true := by kernel_rfl
theorem canonInvariant_k22 : (Rows.canonInvariantRow.plainKeys == Tryd.prog.plainKeys) = true := by rw [prog_keys]; rfl
theorem canonInvariant_k23 : (Rows.canonInvariantRow.shortTexts.isNone) = true := by kernel_rfl
theorem canonInvariant_k26 : (Rows.canonInvariantRow.lifted == Tryd.prog.liftsFinal) = true := by rw [prog_final]; rfl
theorem canonInvariant_k27 : (Tryd.prog.make == some Rows.canonInvariantRow.make) = true := by rw [prog_make]; rfl
theorem canonInvariant_k28 : (Rows.canonInvariantRow.kinds == (if Rows.canonInvariantRow.domain.isEmpty then [] else Tryd.f7.params.toList.map fun t => match Tryd.prog.underlying t with | some (.int k) => some k | _ => none)) = true := by kernel_rfl
theorem canonInvariant_k29 : (Rows.canonInvariantRow.pinned == Rows.canonInvariantRow.pinnedBy) = true := by kernel_rfl
theorem canonInvariant_k30 : (Rows.canonInvariantRow.veiled == (Tryd.f7.params.toList ++ Rows.canonInvariantSpec.plain.varTypes Tryd.prog ++ Tryd.f7.resultTypes.toList).any (Tryd.prog.veiledRec ·)) = true := by kernel_rfl
theorem canonInvariant_k31 : (Rows.canonInvariantRow.veiledFits Tryd.prog Tryd.f7.params.toList (Tryd.f7.params.toList ++ Rows.canonInvariantSpec.plain.varTypes Tryd.prog ++ Tryd.f7.resultTypes.toList)) = true := by kernel_rfl
set_option maxRecDepth 100000 in
theorem canonInvariant_closed : joinedFacts Tryd.prog 7 Tryd.f7 Rows.canonInvariantSpec Rows.canonInvariantRow = true := (and2 (and2 (and2 (and2 (and2 (and2 (and2 (and2 (and2 (and2 (and2 (and2 (and2 (and2 (and2 (and2 (and2 (and2 (and2 (and2 (and2 (and2 (and2 (and2 (and2 (and2 (and2 (and2 (and2 (and2 (and2 canonInvariant_k0 laidOut) prog_maps) canonInvariant_k3) canonInvariant_k4) canonInvariant_k5) prog_stops) canonInvariant_k7) prog_knobs) canonInvariant_k9) canonInvariant_k10) canonInvariant_k11) canonInvariant_k12) canonInvariant_k13) canonInvariant_k14) canonInvariant_k15) canonInvariant_k16) canonInvariant_k17) canonInvariant_k18) canonInvariant_k19) canonInvariant_k20) canonInvariant_k21) canonInvariant_k22) canonInvariant_k23) prog_heard) prog_enter) canonInvariant_k26) canonInvariant_k27) canonInvariant_k28) canonInvariant_k29) canonInvariant_k30) canonInvariant_k31)
theorem canonInvariant_named : Tryd.prog.funcNamed Rows.canonInvariantRow.func = some 7 := by kernel_rfl
theorem canonInvariant_inst : Tryd.f7.isInstance Tryd.prog Rows.canonInvariantRow.origin Rows.canonInvariantRow.targs := of_decide_eq_true (by kernel_rfl)
theorem canonInvariant_wrap : Tryd.f7.isWrapper Tryd.prog Rows.canonInvariantRow.wrapper Rows.canonInvariantRow.mainSum := by unfold Func.isWrapper; first | (rw [if_pos (by decide +kernel)]; kernel_rfl) | (rw [if_neg (by decide +kernel)]; exact ⟨rfl, rfl⟩)
set_option maxRecDepth 100000 in
theorem canonInvariant_door (os : Os) (args : Array Value) : laidMetH Tryd.prog Rows.canonInvariantRow.laid ((World.doorLaid Tryd.prog 400 os).forCall (fun _ _ => 0) ⟨#[], args, []⟩).memory :=
  laidMetH_of_parts3 (fuel := 8) (laidMet_of_run' 8 (by kernel_rfl) (by kernel_rfl)) (by kernel_rfl) (by kernel_rfl)
set_option maxRecDepth 100000 in
theorem canonInvariant_lifted (os : Os) (started : os.Started) (H : Type) (enc : TypeId × Value → H) :
    ReturnsInHanded {} Tryd.checked os 7 .any (fun w args => (Rows.canonInvariantSpec.pre enc Tryd.prog Tryd.f7 [] false w args ∧ laidMetH Tryd.prog Rows.canonInvariantRow.laid w) ∧ sizedMet enc Tryd.prog Tryd.f7 (OpenSpec.ofChange Rows.canonInvariantSpec) false w args) (Rows.canonInvariantSpec.post enc Tryd.prog Tryd.f7 false true false false) := by
  refine returnsInHanded_of_change_and (C := Tryd.checked) (X := fun w _ => laidMetH Tryd.prog Rows.canonInvariantRow.laid w) (fun _ _ _ hh h => h.of_heap hh) own started (by kernel_rfl) Tryd.func7
    (ChangeSpec.witness_shaped (enc := enc) (C := Tryd.checked) (os := os) (X := fun w _ => laidMetH Tryd.prog Rows.canonInvariantRow.laid w) false (World.doorLaid Tryd.prog 400 os) #[.agg #[.slice none 0 0, .slice none 0 0, .int .i64 0], .slice none 0 0] 8 rfl (World.shaped_of_RefB (by kernel_rfl) (by kernel_rfl)) (by kernel_rfl) (by kernel_rfl) (by kernel_rfl) (canonInvariant_door os _)) ?_
  intro W base args ds gs before hval0 hW hcnd _ hL _
  have hval : ∀ (j : Nat) t v, Tryd.f7.params[j]? = some t → args[j]? = some v → Value.okWide Tryd.prog W .any base t v := hval0
  have hW' := hW
  obtain ⟨p, q, hA0, hV, rfl, hfz, hnd⟩ := hW
  have hA : DataW.TrodAll enc Tryd.prog W 0 (fun _ => true) true Tryd.f7.params.toList args.toList ds p := hA0
  rw [Tryd.params7] at hA hval
  obtain ⟨v0, vs0, d0, ds0, p0, q0, hargs, rfl, rfl, h0, r0⟩ := trodAll_cons hA
  obtain ⟨v1, vs1, d1, ds1, p1, q1, rfl, rfl, rfl, h1, r1⟩ := trodAll_cons r0
  obtain ⟨rfl, rfl, rfl⟩ := trodAll_nil r1
  obtain rfl : args = #[v0, v1] := by cases args; simp_all
  obtain ⟨rfl, rfl⟩ := trodVars_none hV
  obtain ⟨S0, M0, L0, aS0, aM0, cS0, cM0, rfl, hS0, hM0, lS0, lM0, wL0⟩ := open_diag (hval 0 24 v0 rfl rfl) h0
  have k0 := h0
  have lt0 : ∀ x ∈ p0, x.block < W.heap.size := by obtain ⟨m, hm⟩ := k0; exact DataW.trod_lt m _ _ _ hm
  obtain ⟨X1, aX1, cX1, rfl, hX1, lX1⟩ := open_list (hval 1 22 v1 rfl rfl) h1
  have k1 := h1
  have lt1 : ∀ x ∈ p1, x.block < W.heap.size := by obtain ⟨m, hm⟩ := k1; exact DataW.trod_lt m _ _ _ hm
  clear hA0 hval0
  have hL2 : laidMet Tryd.prog Rows.canonInvariantRow.laid W := hL
  have ht : Pow10 W := Lib.tabIs_of_head (g := 0) (t := 93) (e := 85) (n := 20) (by kernel_rfl) (by kernel_rfl) Tryd.underlying93 Tryd.underlying85 (by kernel_rfl) (by kernel_rfl) hL2.tail.tail
  refine (linv_any S0 M0 L0 aS0 aM0 cS0 cM0 X1 aX1 cX1 W ht lS0 lM0 wL0 hS0 hM0 lX1 hX1).mono fun e W' ⟨he, bel⟩ => ?_
  subst he
  exact ⟨_, rfl, _, _, _, [], _, [], hW', trodAll_mk1 (shut_bool Tryd.underlying4 _), (trodAll_cons_mk (Below.trod laidOut (by kernel_rfl) (of_decide_eq_true (by kernel_rfl)) k0 bel lt0) (trodAll_cons_mk (Below.trod laidOut (by kernel_rfl) (of_decide_eq_true (by kernel_rfl)) k1 bel lt1) trodAll_mk0)), rfl, bel.frame _, fun h => by cases h⟩
theorem canonInvariant_row : Rows.CanonInvariantSaid :=
  OpenClaim.holds_of_wide 7 Tryd.f7 rfl rfl rfl rfl rfl rfl rfl ⟨rfl, rfl, rfl, rfl, rfl⟩ rfl rfl rfl rfl rfl canonInvariant_named Tryd.func7 canonInvariant_closed canonInvariant_inst canonInvariant_wrap
    (fun os started H enc _ => canonInvariant_lifted os started H enc)
theorem canonInvariant_holds : Rows.CanonInvariantCardSaid :=
  Claim7.holds_tied_plain_at .later [] [.data, .data, .data] true (true, "ecca1c5326bbd5663b8762b21df597a0e1f6b3c513ffeef2692957e3ec8b1300") false
    canonInvariant_row (fun _ h => by cases h) (by kernel_rfl) (fun _ h => by cases h) canonInvariant_row_tie rfl ⟨rfl, rfl⟩ (by kernel_rfl) rfl
    (fun f fn hf hfn => by
      obtain rfl : f = 7 := Option.some.inj (canonInvariant_named.symm.trans hf) |>.symm
      obtain rfl : fn = Tryd.f7 := (Option.some.inj (Tryd.func7.symm.trans hfn)).symm
      exact ⟨by kernel_rfl, fun j t ht => by
        rw [Tryd.params7] at ht
        have hm : t ∈ [24, 22] := by
          have := Array.mem_of_getElem? ht
          simpa using this
        have hall : ([24, 22].all fun u => !Tryd.prog.wantsStandIn u) = true := by kernel_rfl
        exact (show Tryd.prog.wantsStandIn t = false by simpa using List.all_eq_true.1 hall t hm)⟩)
    (by kernel_rfl)
#print axioms canonInvariant_holds
end Go.Proofs.YtmhhjchnjaefhaaDoor

namespace Go.Proofs.YtmhhjchnjaefhaaDoor
open Go Go.RowKit
theorem ct_grp {M : List Int} {n : Nat} (hm : MateOk M n) : CT M n = (grpOf M n).length := by
  unfold CT cnt grpOf leadsN
  rw [List.length_map, List.countP_eq_length_filter]
  congr 1
  refine List.filter_congr fun c hc => ?_
  have hc := List.mem_range.1 hc
  rw [Bool.eq_iff_iff, decide_eq_true_eq, okC_iff]
  constructor
  · intro h d hd hdc
    have := rep_le M (hm.conn_symm (by omega) hdc)
    omega
  · intro h
    have h1 := rep_conn M c
    have h2 : rep M c ≤ c := rep_le M (Conn.refl M c)
    rcases Nat.lt_or_ge (rep M c) c with g | g
    · exact absurd (hm.conn_symm hc h1) (h _ g)
    · omega
theorem faces_len {S M : List Int} {L : Int} (hv : vldB S M L = true) : (facesL M S.length).length = S.length + 2 * (grpOf M S.length).length := by
  obtain ⟨hs, hsp⟩ := vldB_iff.1 hv
  have hm := hs.mates2
  rw [← ct_grp hm.ok, ← (sph_total hm).1 hsp]
  unfold facesL
  rw [cycs_eq hm.inj (fun x hx => perOf_spec hm.inj x hx) _ (fun _ _ => rfl)]
  unfold clTo FT cnt
  rw [List.length_map, List.countP_eq_length_filter]
  simp
theorem grp_pinf (S M : List Int) (n : Nat) : (pinf S M n).length = (grpOf M n).length := by unfold pinf; rw [List.length_map]
theorem strands_len {S M : List Int} {L : Int} (hv : vldB S M L = true) : (strandsL S M L).length = (leasts S M).length := by
  rw [strandsL_leasts hv, List.length_map]
/-- .. of a renumbered diagram. -/
theorem renum_counts {S M : List Int} {L : Int} (hv : vldB S M L = true) {o : List Nat} (h : o.Perm (List.range S.length)) (hv' : vldB (partS S o) (partM M o) L = true) :
    (facesL (partM M o) S.length).length = (facesL M S.length).length ∧ (strandsL (partS S o) (partM M o) L).length = (strandsL S M L).length ∧ (grpOf (partM M o) S.length).length = (grpOf M S.length).length := by
  have hs := vldB_shape hv
  have hs' := vldB_shape hv'
  have hl : o.length = S.length := by have := h.length_eq; rwa [List.length_range] at this
  have hlS : (partS S o).length = S.length := by rw [partS_len, hl]
  have hg : (grpOf (partM M o) S.length).length = (grpOf M S.length).length := by
    have := (pinf_renum hv h).length_eq
    rw [grp_pinf, grp_pinf] at this
    exact this.symm
  refine ⟨?_, ?_, hg⟩
  · have h1 := faces_len hv
    have h2 := faces_len hv'
    rw [hlS] at h2
    omega
  · rw [strands_len hv, strands_len hv']
    have hi := rn_iso hv (perm_good h)
    rw [rnM_part hs.mates h] at hi
    exact hi.leasts_eq hs hs' hlS
end Go.Proofs.YtmhhjchnjaefhaaDoor

