/- The walk of the law CanonIdempotent. CanonIdempotent: the form of a diagram is a valid diagram that is isomorphic to it, with as many faces, strands and parts, and it is its own form; for all diagrams (the law itself looks at 20 crossings at most). -/
import Derived.WalkKit
import Derived.WalkSpells
import Derived.WalkLawsBesides
import Derived.Deep.AppendSrc
import Derived.Deep.LoopGhost
import Derived.Deep.QuietTactic
import Derived.Deep.RegionWith
import Derived.Deep.DeepMust
import Derived.Deep.DeepFit
import Derived.BigQuiet
import Derived.Lib.Hide
import Derived.Outline
import Derived.Test.YtmhhjchnjaefhaaDoorProg
import Derived.Deep.Matrix
import Derived.Deep.DeepCutAuto
import Derived.Deep.RegionLaw
import Derived.Deep.RegionHeld3
import Derived.Lib.SliceRun
import Derived.Shelf.Strings.Builder1
import Derived.Shelf.Small.Wraps
import Derived.Shelf.Strings.BuilderF
import Derived.Shelf.Strings.BuilderK
import Derived.Shelf.Strconv.Itoa0
import Derived.Shelf.Strconv.Itoa1
import Derived.Shelf.LaysM
import Derived.Shelf.Strconv.Itoa2
import Derived.Shelf.Strconv.Itoa3
import Derived.Shelf.Slices.Equal
import Derived.Ground.Names2Prog
import Derived.Shelf.Slices.Clone
import Derived.Shelf.Slices.SearchI
import Derived.Shelf.Slices.Empties2
import Derived.Ground.SlgnProg
import Derived.Shelf.SlicesE.Clone
import Derived.Sort.OwnSortedInts
import Derived.Shelf.Small.Bits
import Derived.Shelf.Sort.Plain
import Derived.Shelf.Slices.Turned
import Derived.Shelf.Slices.CompactI
import Derived.Shelf.Slices.Cells
import Derived.Shelf.Slices.In.SortNone
import Derived.Lib.AppendZeros
import Derived.Deep.RegionHeld
import Derived.Lib.Builder
import Derived.Lib.AppendStr
import Derived.Lib.Walk
import Derived.Laws.Externs
import Derived.Lib.AppendIntMem
import Derived.Test.YtmhhjchnjaefhaaDoorCards
import Derived.Test.YtmhhjchnjaefhaaDoorTie
import Derived.LaidMore
import Derived.SevenTiedAt
import Derived.Stop.Joined
import Derived.Stop.LaidErr
import Derived.Lib.LaidTab
import Derived.Test.YtmhhjchnjaefhaaDoorRows
import Derived.ProofKit
import Derived.OpenShut
import Derived.ShutString
import Derived.ChangeOld
import Derived.Below
import Derived.Lib.SmallJoins
import Derived.Test.YtmhhjchnjaefhaaDoorFbAa
import Derived.Test.YtmhhjchnjaefhaaDoorFbAb
import Derived.Test.YtmhhjchnjaefhaaDoorFbAc
import Derived.Test.YtmhhjchnjaefhaaDoorFbAd
import Derived.Test.YtmhhjchnjaefhaaDoorFbAe
import Derived.Test.YtmhhjchnjaefhaaDoorFbAf
import Derived.Test.YtmhhjchnjaefhaaDoorFbAg
import Derived.Test.YtmhhjchnjaefhaaDoorFbAh
import Derived.Test.YtmhhjchnjaefhaaDoorFbAi
import Derived.Test.YtmhhjchnjaefhaaDoorFbAj
import Derived.Test.YtmhhjchnjaefhaaDoorFbAk
import Derived.Test.YtmhhjchnjaefhaaDoorFbAl
import Derived.Test.YtmhhjchnjaefhaaDoorFbAm
import Derived.Test.YtmhhjchnjaefhaaDoorFbAn
import Derived.Test.YtmhhjchnjaefhaaDoorFbAo
import Derived.Test.YtmhhjchnjaefhaaDoorFbAp
import Derived.Test.YtmhhjchnjaefhaaDoorFbAq
import Derived.Test.YtmhhjchnjaefhaaDoorFbAr
import Derived.Test.YtmhhjchnjaefhaaDoorFbAs
namespace Go.Proofs.YtmhhjchnjaefhaaDoor
open Go Go.RowKit
/-- The form is a renumbered diagram. -/
theorem fm_perm {S M : List Int} {L : Int} (hv : vldB S M L = true) : ∃ o : List Nat, o.Perm (List.range S.length) ∧ partS S o = fmS S M ∧ partM M o = fmM S M := by
  obtain ⟨ys, hy⟩ := srt_some ((grpOf M S.length).map (pieOf S M S.length))
  exact ⟨flO ys, form_plain (vldB_shape hv) hy⟩
theorem fm_all {S M : List Int} {L : Int} (hv : vldB S M L = true) :
    vldB (fmS S M) (fmM S M) L = true ∧ (fmS S M).length = S.length ∧ (fmM S M).length = M.length ∧ codeOf (fmS S M) (fmM S M) L = codeOf S M L ∧ fmS (fmS S M) (fmM S M) = fmS S M ∧ fmM (fmS S M) (fmM S M) = fmM S M ∧
    (facesL (fmM S M) S.length).length = (facesL M S.length).length ∧ (strandsL (fmS S M) (fmM S M) L).length = (strandsL S M L).length ∧ (grpOf (fmM S M) S.length).length = (grpOf M S.length).length := by
  obtain ⟨o, hp, e1, e2⟩ := fm_perm hv
  obtain ⟨p1, p2, p3, p4, p5, p6, _⟩ := renum_all hv hp
  obtain ⟨c1, c2, c3⟩ := renum_counts hv hp p1
  rw [e1, e2] at p1 p4 p5 p6 c2
  rw [e2] at c1 c3 p3
  rw [e1] at p2
  exact ⟨p1, p2, p3, p4, p5, p6, c1, c2, c3⟩
set_option maxRecDepth 100000 in
set_option maxHeartbeats 8000000 in
theorem lidm_great (S M : List Int) (L : Int) (aS aM : Option Addr) (cS cM : Nat) (w : World) (ht : Pow10 w) (hg : greatB S M L = true) :
    Calls Tryd.prog 10 #[.agg #[.slice aS S.length cS, .slice aM M.length cM, .int .i64 L]] w fun e w' => e = .returned (.bool true) ∧ Below w.heap.size w w' := by
  have HA : Hid (∀ W', Below w.heap.size w W' → Calls Tryd.prog 11 #[] W' fun e w' => e = .returned (.bool true) ∧ Below W'.heap.size W' w') := Lib.hid fun W' h => awake_any W' (ht.later h)
  have HG : Hid (∀ W', Calls Tryd.prog 12 #[.agg #[.slice aS S.length cS, .slice aM M.length cM, .int .i64 L]] W' fun e w' => e = .returned (.bool true) ∧ Below W'.heap.size W' w') := Lib.hid fun W' => by
    have g := great_any S M L aS aM cS cM W'
    rw [hg] at g; exact g
  have H0 := Lib.hid ((HH.start w).alloc #[.slice aS S.length cS, .slice aM M.length cM, .int .i64 L] 24 rfl rfl)
  clear hg ht
  generalize S.length = n at *
  generalize M.length = N at *
  go_enter Tryd.func10, Tryd.ntmps10
  go_wp2_with fail
  refine (HA.out _ H0.out.below).mono ?_
  rintro e w1 ⟨rfl, hb⟩
  have H1 := Lib.hid (H0.out.call hb)
  clear hb H0 
  have k00 := H1.out.cell (k := 0) (i := 0) rfl rfl
  have k01 := H1.out.cell (k := 0) (i := 1) rfl rfl
  have k02 := H1.out.cell (k := 0) (i := 2) rfl rfl
  go_wp2_with fail
  clear k00 k01 k02
  refine (HG.out _).mono ?_
  rintro e w2 ⟨rfl, hb⟩
  have H2 := Lib.hid (H1.out.call hb)
  clear hb H1 
  go_wp2_with fail
  go_ret
  exact ⟨rfl, H2.out.below⟩
set_option maxRecDepth 100000 in
set_option maxHeartbeats 8000000 in
theorem lidm_no (S M : List Int) (L : Int) (aS aM : Option Addr) (cS cM : Nat) (w : World) (ht : Pow10 w) (hg : greatB S M L = false) (hv : vldB S M L = false) (hS : IntsAt w aS S) (hM : IntsAt w aM M) :
    Calls Tryd.prog 10 #[.agg #[.slice aS S.length cS, .slice aM M.length cM, .int .i64 L]] w fun e w' => e = .returned (.bool true) ∧ Below w.heap.size w w' := by
  have HA : Hid (∀ W', Below w.heap.size w W' → Calls Tryd.prog 11 #[] W' fun e w' => e = .returned (.bool true) ∧ Below W'.heap.size W' w') := Lib.hid fun W' h => awake_any W' (ht.later h)
  have HG : Hid (∀ W', Calls Tryd.prog 12 #[.agg #[.slice aS S.length cS, .slice aM M.length cM, .int .i64 L]] W' fun e w' => e = .returned (.bool false) ∧ Below W'.heap.size W' w') := Lib.hid fun W' => by
    have g := great_any S M L aS aM cS cM W'
    rw [hg] at g; exact g
  obtain ⟨hg1, hg2⟩ := greatB_no hg
  have HV : Hid (∀ W', Below w.heap.size w W' → Calls Tryd.prog 18 #[.agg #[.slice aS S.length cS, .slice aM M.length cM, .int .i64 L]] W' fun e w' => e = .returned (.bool false) ∧ Below W'.heap.size W' w') := Lib.hid fun W' h => by
    have g := valid_any S M L aS aM cS cM W' (by omega) (by omega) (hS.later h) (hM.later h)
    rw [hv] at g; exact g
  have H0 := Lib.hid ((HH.start w).alloc #[.slice aS S.length cS, .slice aM M.length cM, .int .i64 L] 24 rfl rfl)
  clear hg ht hv hS hM
  generalize S.length = n at *
  generalize M.length = N at *
  go_enter Tryd.func10, Tryd.ntmps10
  go_wp2_with fail
  refine (HA.out _ H0.out.below).mono ?_
  rintro e w1 ⟨rfl, hb⟩
  have H1 := Lib.hid (H0.out.call hb)
  clear hb H0 
  have k00 := H1.out.cell (k := 0) (i := 0) rfl rfl
  have k01 := H1.out.cell (k := 0) (i := 1) rfl rfl
  have k02 := H1.out.cell (k := 0) (i := 2) rfl rfl
  go_wp2_with fail
  clear k00 k01 k02
  refine (HG.out _).mono ?_
  rintro e w2 ⟨rfl, hb⟩
  have H2 := Lib.hid (H1.out.call hb)
  clear hb H1 
  have k00 := H2.out.cell (k := 0) (i := 0) rfl rfl
  have k01 := H2.out.cell (k := 0) (i := 1) rfl rfl
  have k02 := H2.out.cell (k := 0) (i := 2) rfl rfl
  go_wp2_with fail
  clear k00 k01 k02
  refine (HV.out _ H2.out.below).mono ?_
  rintro e w3 ⟨rfl, hb⟩
  have H3 := Lib.hid (H2.out.call hb)
  clear hb H2 
  go_wp2_with fail
  go_ret
  exact ⟨rfl, H3.out.below⟩
set_option maxRecDepth 100000 in
set_option maxHeartbeats 8000000 in
theorem lidm_yes (S M : List Int) (L : Int) (aS aM : Option Addr) (cS cM : Nat) (w : World) (ht : Pow10 w) (hg : greatB S M L = false) (hv : vldB S M L = true) (hS : IntsAt w aS S) (hM : IntsAt w aM M) :
    Calls Tryd.prog 10 #[.agg #[.slice aS S.length cS, .slice aM M.length cM, .int .i64 L]] w fun e w' => e = .returned (.bool true) ∧ Below w.heap.size w w' := by
  have HA : Hid (∀ W', Below w.heap.size w W' → Calls Tryd.prog 11 #[] W' fun e w' => e = .returned (.bool true) ∧ Below W'.heap.size W' w') := Lib.hid fun W' h => awake_any W' (ht.later h)
  have HG : Hid (∀ W', Calls Tryd.prog 12 #[.agg #[.slice aS S.length cS, .slice aM M.length cM, .int .i64 L]] W' fun e w' => e = .returned (.bool false) ∧ Below W'.heap.size W' w') := Lib.hid fun W' => by
    have g := great_any S M L aS aM cS cM W'
    rw [hg] at g; exact g
  obtain ⟨hg1, hg2⟩ := greatB_no hg
  have HV : Hid (∀ W', Below w.heap.size w W' → Calls Tryd.prog 18 #[.agg #[.slice aS S.length cS, .slice aM M.length cM, .int .i64 L]] W' fun e w' => e = .returned (.bool true) ∧ Below W'.heap.size W' w') := Lib.hid fun W' h => by
    have g := valid_any S M L aS aM cS cM W' (by omega) (by omega) (hS.later h) (hM.later h)
    rw [hv] at g; exact g
  obtain ⟨pv, pl, pl2, pc, pf, pf2, pn1, pn2, pn3⟩ := fm_all hv
  have HFd : Hid (∀ W', Below w.heap.size w W' → Calls Tryd.prog 26 #[.agg #[.slice aS S.length cS, .slice aM M.length cM, .int .i64 L]] W' fun e w' => ∃ a b c d, e = .returned (.tuple #[.agg #[.slice a S.length c, .slice b M.length d, .int .i64 L], .int .i64 0]) ∧ Own w' W'.heap.size 3 a c (ints (fmS S M)) ∧ Own w' W'.heap.size 3 b d (ints (fmM S M)) ∧ Below W'.heap.size W' w') := Lib.hid fun W' h => form_yes S M L aS aM cS cM W' hv hg1 (hS.later h) (hM.later h)
  have HFx : Hid (∀ (a b : Option Addr) (c d : Nat) W', IntsAt W' a (fmS S M) → IntsAt W' b (fmM S M) → Calls Tryd.prog 26 #[.agg #[.slice a S.length c, .slice b M.length d, .int .i64 L]] W' fun e w' => ∃ a b c d, e = .returned (.tuple #[.agg #[.slice a S.length c, .slice b M.length d, .int .i64 L], .int .i64 0]) ∧ Own w' W'.heap.size 3 a c (ints (fmS S M)) ∧ Own w' W'.heap.size 3 b d (ints (fmM S M)) ∧ Below W'.heap.size W' w') := Lib.hid fun a b c d W' h1 h2 => by
    have g := form_yes (fmS S M) (fmM S M) L a b c d W' pv (by omega) h1 h2
    rw [pl, pl2, pf, pf2] at g; exact g
  have HVx : Hid (∀ (a b : Option Addr) (c d : Nat) W', IntsAt W' a (fmS S M) → IntsAt W' b (fmM S M) → Calls Tryd.prog 18 #[.agg #[.slice a S.length c, .slice b M.length d, .int .i64 L]] W' fun e w' => e = .returned (.bool true) ∧ Below W'.heap.size W' w') := Lib.hid fun a b c d W' h1 h2 => by
    have g := valid_any (fmS S M) (fmM S M) L a b c d W' (by omega) (by omega) h1 h2
    rw [pv, pl, pl2] at g; exact g
  have HEq : Hid (∀ (a b a' b' : Option Addr) (c d c' d' : Nat) W', IntsAt W' a (fmS S M) → IntsAt W' b (fmM S M) → IntsAt W' a' (fmS S M) → IntsAt W' b' (fmM S M) → Calls Tryd.prog 22 #[.agg #[.slice a S.length c, .slice b M.length d, .int .i64 L], .agg #[.slice a' S.length c', .slice b' M.length d', .int .i64 L]] W' fun e w' => e = .returned (.bool true) ∧ Below W'.heap.size W' w') := Lib.hid fun a b a' b' c d c' d' W' h1 h2 h3 h4 => by
    have g := equalD_any (fmS S M) (fmM S M) (fmS S M) (fmM S M) L L a b a' b' c d c' d' W' (by omega) (by omega) h1 h2 h3 h4
    rw [pl, pl2, eqD_same'] at g; exact g
  have HSm : Hid (∀ (a b : Option Addr) (c d : Nat) W', Below w.heap.size w W' → IntsAt W' a (fmS S M) → IntsAt W' b (fmM S M) → Calls Tryd.prog 14 #[.agg #[.slice a S.length c, .slice b M.length d, .int .i64 L], .agg #[.slice aS S.length cS, .slice aM M.length cM, .int .i64 L]] W' fun e w' => e = .returned (.bool true) ∧ Below W'.heap.size W' w') := Lib.hid fun a b c d W' h h1 h2 => by
    have g := csame_any (fmS S M) (fmM S M) L a b c d S M L aS aM cS cM W' (by omega) (by omega) (by omega) (by omega) (by omega) hg1 h1 h2 (hS.later h) (hM.later h)
    have e : cSame (fmS S M) (fmM S M) L S M L = true := by unfold cSame; rw [hv, pv, pc, decide_eq_true rfl]; rfl
    rw [e, pl, pl2] at g; exact g
  have HXf : Hid (∀ (a b : Option Addr) (c d : Nat) W', IntsAt W' a (fmS S M) → IntsAt W' b (fmM S M) → Calls Tryd.prog 34 #[.agg #[.slice a S.length c, .slice b M.length d, .int .i64 L]] W' fun e w' => ∃ A C, e = .returned (.slice A (facesL M S.length).length C) ∧ Below W'.heap.size W' w') := Lib.hid fun a b c d W' h1 h2 => by
    have g := faces_own (fmS S M) (fmM S M) L a b c d W' pv h1 h2
    rw [pl, pl2, pn1] at g
    exact g.mono fun e w' ⟨A, C, he, hb, _⟩ => ⟨A, C, he, hb⟩
  have HXs : Hid (∀ (a b : Option Addr) (c d : Nat) W', IntsAt W' a (fmS S M) → IntsAt W' b (fmM S M) → Calls Tryd.prog 37 #[.agg #[.slice a S.length c, .slice b M.length d, .int .i64 L]] W' fun e w' => ∃ A C, e = .returned (.slice A (strandsL S M L).length C) ∧ Below W'.heap.size W' w') := Lib.hid fun a b c d W' h1 h2 => by
    have g := strands_any (fmS S M) (fmM S M) L a b c d W' (by omega) (by omega) h1 h2
    rw [pl, pl2, pn2] at g
    exact g.mono fun e w' ⟨A, C, he, hb, _⟩ => ⟨A, C, he, hb⟩
  have HXg : Hid (∀ (a b : Option Addr) (c d : Nat) W', IntsAt W' a (fmS S M) → IntsAt W' b (fmM S M) → Calls Tryd.prog 36 #[.agg #[.slice a S.length c, .slice b M.length d, .int .i64 L]] W' fun e w' => ∃ A C, e = .returned (.slice A (grpOf M S.length).length C) ∧ Below W'.heap.size W' w') := Lib.hid fun a b c d W' h1 h2 => by
    have g := graph_any (fmS S M) (fmM S M) L a b c d W' pv h1 h2
    rw [pl, pl2, pn3] at g
    exact g.mono fun e w' ⟨A, C, he, _, hb⟩ => ⟨A, C, he, hb⟩
  have HDf : Hid (∀ W', Below w.heap.size w W' → Calls Tryd.prog 34 #[.agg #[.slice aS S.length cS, .slice aM M.length cM, .int .i64 L]] W' fun e w' => ∃ A C, e = .returned (.slice A (facesL M S.length).length C) ∧ Below W'.heap.size W' w') := Lib.hid fun W' h => (faces_own S M L aS aM cS cM W' hv (hS.later h) (hM.later h)).mono fun e w' ⟨A, C, he, hb, _⟩ => ⟨A, C, he, hb⟩
  have HDs : Hid (∀ W', Below w.heap.size w W' → Calls Tryd.prog 37 #[.agg #[.slice aS S.length cS, .slice aM M.length cM, .int .i64 L]] W' fun e w' => ∃ A C, e = .returned (.slice A (strandsL S M L).length C) ∧ Below W'.heap.size W' w') := Lib.hid fun W' h => (strands_any S M L aS aM cS cM W' (by omega) (by omega) (hS.later h) (hM.later h)).mono fun e w' ⟨A, C, he, hb, _⟩ => ⟨A, C, he, hb⟩
  have HDg : Hid (∀ W', Below w.heap.size w W' → Calls Tryd.prog 36 #[.agg #[.slice aS S.length cS, .slice aM M.length cM, .int .i64 L]] W' fun e w' => ∃ A C, e = .returned (.slice A (grpOf M S.length).length C) ∧ Below W'.heap.size W' w') := Lib.hid fun W' h => (graph_any S M L aS aM cS cM W' hv (hS.later h) (hM.later h)).mono fun e w' ⟨A, C, he, _, hb⟩ => ⟨A, C, he, hb⟩
  have H0 := Lib.hid ((HH.start w).alloc #[.slice aS S.length cS, .slice aM M.length cM, .int .i64 L] 24 rfl rfl)
  clear hg ht hS hM hv pv pl pl2 pc pf pf2 pn1 pn2 pn3
  generalize (facesL M S.length).length = nf at *
  generalize (strandsL S M L).length = ns at *
  generalize (grpOf M S.length).length = ng at *
  generalize fmS S M = FSz at *
  generalize fmM S M = FM at *
  generalize S.length = n at *
  generalize M.length = N at *
  have eL : (L == L) = true := beq_self_eq_true L
  have eL2 : (L != L) = false := by simp
  go_enter Tryd.func10, Tryd.ntmps10
  go_wp2_with fail
  refine (HA.out _ H0.out.below).mono ?_
  rintro e w1 ⟨rfl, hb⟩
  have H1 := Lib.hid (H0.out.call hb)
  clear hb H0 
  have k00 := H1.out.cell (k := 0) (i := 0) rfl rfl
  have k01 := H1.out.cell (k := 0) (i := 1) rfl rfl
  have k02 := H1.out.cell (k := 0) (i := 2) rfl rfl
  go_wp2_with fail
  clear k00 k01 k02
  refine (HG.out _).mono ?_
  rintro e w2 ⟨rfl, hb⟩
  have H2 := Lib.hid (H1.out.call hb)
  clear hb H1 
  have k00 := H2.out.cell (k := 0) (i := 0) rfl rfl
  have k01 := H2.out.cell (k := 0) (i := 1) rfl rfl
  have k02 := H2.out.cell (k := 0) (i := 2) rfl rfl
  go_wp2_with fail
  clear k00 k01 k02
  refine (HV.out _ H2.out.below).mono ?_
  rintro e w3 ⟨rfl, hb⟩
  have H3 := Lib.hid (H2.out.call hb)
  clear hb H2 
  have k00 := H3.out.cell (k := 0) (i := 0) rfl rfl
  have k01 := H3.out.cell (k := 0) (i := 1) rfl rfl
  have k02 := H3.out.cell (k := 0) (i := 2) rfl rfl
  go_wp2_with fail
  clear k00 k01 k02
  refine (HFd.out _ H3.out.below).mono ?_
  rintro e w4 ⟨a3, b3, c3, d3, rfl, ho1, ho2, hb⟩
  have H4' := Lib.hid (H3.out.call hb)
  have N3 := Lib.hid (And.intro ho1.ints ho2.ints)
  clear ho1 ho2 hb H3
  have H4 := Lib.hid (H4'.out.alloc #[.slice a3 n c3, .slice b3 N d3, .int .i64 L] 24 (b := w4.heap.size) rfl rfl)
  have M3 := Lib.hid (And.intro (N3.out.1.later ((Below.refl _ _).alloc (Nat.le_refl _) (.cells #[.slice a3 n c3, .slice b3 N d3, .int .i64 L] 24))) (N3.out.2.later ((Below.refl _ _).alloc (Nat.le_refl _) (.cells #[.slice a3 n c3, .slice b3 N d3, .int .i64 L] 24))))
  go_upto_region 6 with fail
  clear N3 H4'
  generalize w4.alloc (.cells #[.slice a3 n c3, .slice b3 N d3, .int .i64 L] 24) = v4 at *
  generalize w4.heap.size = q3 at *
  have k10 := H4.out.cell (k := 1) (i := 0) rfl rfl
  have k11 := H4.out.cell (k := 1) (i := 1) rfl rfl
  have k12 := H4.out.cell (k := 1) (i := 2) rfl rfl
  go_wp2_with fail
  clear k10 k11 k12
  refine (HFx.out a3 b3 c3 d3 _ M3.out.1 M3.out.2).mono ?_
  rintro e w5 ⟨a5, b5, c5, d5, rfl, ho1, ho2, hb⟩
  have H5' := Lib.hid (H4.out.call hb)
  have N5 := Lib.hid (And.intro ho1.ints ho2.ints)
  have N3 := Lib.hid (And.intro (M3.out.1.later hb) (M3.out.2.later hb))
  clear ho1 ho2 hb H4
  have H5 := Lib.hid (H5'.out.alloc #[.slice a5 n c5, .slice b5 N d5, .int .i64 L] 24 (b := w5.heap.size) rfl rfl)
  clear M3
  have M3 := Lib.hid (And.intro (N3.out.1.later ((Below.refl _ _).alloc (Nat.le_refl _) (.cells #[.slice a5 n c5, .slice b5 N d5, .int .i64 L] 24))) (N3.out.2.later ((Below.refl _ _).alloc (Nat.le_refl _) (.cells #[.slice a5 n c5, .slice b5 N d5, .int .i64 L] 24))))
  have M5 := Lib.hid (And.intro (N5.out.1.later ((Below.refl _ _).alloc (Nat.le_refl _) (.cells #[.slice a5 n c5, .slice b5 N d5, .int .i64 L] 24))) (N5.out.2.later ((Below.refl _ _).alloc (Nat.le_refl _) (.cells #[.slice a5 n c5, .slice b5 N d5, .int .i64 L] 24))))
  go_upto_region 7 with fail
  clear N3 N5 H5'
  generalize w5.alloc (.cells #[.slice a5 n c5, .slice b5 N d5, .int .i64 L] 24) = v5 at *
  generalize w5.heap.size = q5 at *
  have k00 := H5.out.cell (k := 0) (i := 0) rfl rfl
  have k01 := H5.out.cell (k := 0) (i := 1) rfl rfl
  have k02 := H5.out.cell (k := 0) (i := 2) rfl rfl
  have k10 := H5.out.cell (k := 1) (i := 0) rfl rfl
  have k11 := H5.out.cell (k := 1) (i := 1) rfl rfl
  have k12 := H5.out.cell (k := 1) (i := 2) rfl rfl
  have k20 := H5.out.cell (k := 2) (i := 0) rfl rfl
  have k21 := H5.out.cell (k := 2) (i := 1) rfl rfl
  have k22 := H5.out.cell (k := 2) (i := 2) rfl rfl
  go_wp2_with fail
  clear k00 k01 k02 k10 k11 k12 k20 k21 k22
  refine (HVx.out a3 b3 c3 d3 _ M3.out.1 M3.out.2).mono ?_
  rintro e w6 ⟨rfl, hb⟩
  have H6 := Lib.hid (H5.out.call hb)
  have P3 := Lib.hid (And.intro (M3.out.1.later hb) (M3.out.2.later hb))
  have P5 := Lib.hid (And.intro (M5.out.1.later hb) (M5.out.2.later hb))
  clear hb H5 M3 M5
  have M3 := P3
  have M5 := P5
  clear P3 P5
  have k00 := H6.out.cell (k := 0) (i := 0) rfl rfl
  have k01 := H6.out.cell (k := 0) (i := 1) rfl rfl
  have k02 := H6.out.cell (k := 0) (i := 2) rfl rfl
  have k10 := H6.out.cell (k := 1) (i := 0) rfl rfl
  have k11 := H6.out.cell (k := 1) (i := 1) rfl rfl
  have k12 := H6.out.cell (k := 1) (i := 2) rfl rfl
  have k20 := H6.out.cell (k := 2) (i := 0) rfl rfl
  have k21 := H6.out.cell (k := 2) (i := 1) rfl rfl
  have k22 := H6.out.cell (k := 2) (i := 2) rfl rfl
  go_wp2_with fail
  clear k00 k01 k02 k10 k11 k12 k20 k21 k22
  refine (HEq.out a3 b3 a5 b5 c3 d3 c5 d5 _ M3.out.1 M3.out.2 M5.out.1 M5.out.2).mono ?_
  rintro e w7 ⟨rfl, hb⟩
  have H7 := Lib.hid (H6.out.call hb)
  have P3 := Lib.hid (And.intro (M3.out.1.later hb) (M3.out.2.later hb))
  have P5 := Lib.hid (And.intro (M5.out.1.later hb) (M5.out.2.later hb))
  clear hb H6 M3 M5
  have M3 := P3
  have M5 := P5
  clear P3 P5
  have k00 := H7.out.cell (k := 0) (i := 0) rfl rfl
  have k01 := H7.out.cell (k := 0) (i := 1) rfl rfl
  have k02 := H7.out.cell (k := 0) (i := 2) rfl rfl
  have k10 := H7.out.cell (k := 1) (i := 0) rfl rfl
  have k11 := H7.out.cell (k := 1) (i := 1) rfl rfl
  have k12 := H7.out.cell (k := 1) (i := 2) rfl rfl
  have k20 := H7.out.cell (k := 2) (i := 0) rfl rfl
  have k21 := H7.out.cell (k := 2) (i := 1) rfl rfl
  have k22 := H7.out.cell (k := 2) (i := 2) rfl rfl
  go_wp2_with fail
  clear k00 k01 k02 k10 k11 k12 k20 k21 k22
  refine (HSm.out a3 b3 c3 d3 _ H7.out.below M3.out.1 M3.out.2).mono ?_
  rintro e w8 ⟨rfl, hb⟩
  have H8 := Lib.hid (H7.out.call hb)
  have P3 := Lib.hid (And.intro (M3.out.1.later hb) (M3.out.2.later hb))
  have P5 := Lib.hid (And.intro (M5.out.1.later hb) (M5.out.2.later hb))
  clear hb H7 M3 M5
  have M3 := P3
  have M5 := P5
  clear P3 P5
  have k00 := H8.out.cell (k := 0) (i := 0) rfl rfl
  have k01 := H8.out.cell (k := 0) (i := 1) rfl rfl
  have k02 := H8.out.cell (k := 0) (i := 2) rfl rfl
  have k10 := H8.out.cell (k := 1) (i := 0) rfl rfl
  have k11 := H8.out.cell (k := 1) (i := 1) rfl rfl
  have k12 := H8.out.cell (k := 1) (i := 2) rfl rfl
  have k20 := H8.out.cell (k := 2) (i := 0) rfl rfl
  have k21 := H8.out.cell (k := 2) (i := 1) rfl rfl
  have k22 := H8.out.cell (k := 2) (i := 2) rfl rfl
  go_upto_region 9 with fail
  clear k00 k01 k02 k10 k11 k12 k20 k21 k22
  have HQ : Hid (∀ W', Below w8.heap.size w8 W' → W'.cell? ⟨w.heap.size, 0, none⟩ = some (.slice aS n cS) ∧ W'.cell? ⟨w.heap.size, 1, none⟩ = some (.slice aM N cM) ∧ W'.cell? ⟨w.heap.size, 2, none⟩ = some (.int .i64 L) ∧ W'.cell? ⟨q3, 0, none⟩ = some (.slice a3 n c3) ∧ W'.cell? ⟨q3, 1, none⟩ = some (.slice b3 N d3) ∧ W'.cell? ⟨q3, 2, none⟩ = some (.int .i64 L) ∧ W'.cell? ⟨q5, 0, none⟩ = some (.slice a5 n c5) ∧ W'.cell? ⟨q5, 1, none⟩ = some (.slice b5 N d5) ∧ W'.cell? ⟨q5, 2, none⟩ = some (.int .i64 L)) := Lib.hid fun W' h => by
    have h1 := H8.out.call h
    exact ⟨(h1.cell (k := 0) (i := 0) rfl rfl), (h1.cell (k := 0) (i := 1) rfl rfl), (h1.cell (k := 0) (i := 2) rfl rfl), (h1.cell (k := 1) (i := 0) rfl rfl), (h1.cell (k := 1) (i := 1) rfl rfl), (h1.cell (k := 1) (i := 2) rfl rfl), (h1.cell (k := 2) (i := 0) rfl rfl), (h1.cell (k := 2) (i := 1) rfl rfl), (h1.cell (k := 2) (i := 2) rfl rfl)⟩
  have B0 : Hid (Below w8.heap.size w8 w8.drew) := Lib.hid (Below.refl _ _).drew
  have Q0 := Lib.hid (HQ.out _ B0.out)
  have HD : Hid (∀ W', Below w8.heap.size w8 W' → Below w.heap.size w W') := Lib.hid fun W' h => below_of H8.out.below h H8.out.below.size
  go_region_held3 (fun W' => W'.cell? ⟨w.heap.size, 0, none⟩ = some (.slice aS n cS) ∧ W'.cell? ⟨w.heap.size, 1, none⟩ = some (.slice aM N cM) ∧ W'.cell? ⟨w.heap.size, 2, none⟩ = some (.int .i64 L) ∧ W'.cell? ⟨q3, 0, none⟩ = some (.slice a3 n c3) ∧ W'.cell? ⟨q3, 1, none⟩ = some (.slice b3 N d3) ∧ W'.cell? ⟨q3, 2, none⟩ = some (.int .i64 L) ∧ W'.cell? ⟨q5, 0, none⟩ = some (.slice a5 n c5) ∧ W'.cell? ⟨q5, 1, none⟩ = some (.slice b5 N d5) ∧ W'.cell? ⟨q5, 2, none⟩ = some (.int .i64 L))
    (first
      | with_reducible exact Q0.out
      | with_reducible exact Q1.out
      | with_reducible exact Q2.out
      | with_reducible exact Q3.out
      | with_reducible exact Q4.out
      | with_reducible exact Q5.out
      | with_reducible exact Q6.out)
    (first
      | ((with_reducible refine (HXf.out a3 b3 c3 d3 _ (M3.out.1.later B0.out) (M3.out.2.later B0.out)).mono ?_); rintro e z1 ⟨A1, C1, rfl, hb⟩; have B1 := Lib.hid (B0.out.trans (hb.mono B0.out.size)); have Q1 := Lib.hid (HQ.out _ B1.out); clear hb)
      | ((with_reducible refine (HDf.out _ (HD.out _ B1.out)).mono ?_); rintro e z2 ⟨A2, C2, rfl, hb⟩; have B2 := Lib.hid (B1.out.trans (hb.mono B1.out.size)); have Q2 := Lib.hid (HQ.out _ B2.out); clear hb)
      | ((with_reducible refine (HXs.out a3 b3 c3 d3 _ (M3.out.1.later B2.out) (M3.out.2.later B2.out)).mono ?_); rintro e z3 ⟨A3, C3, rfl, hb⟩; have B3 := Lib.hid (B2.out.trans (hb.mono B2.out.size)); have Q3 := Lib.hid (HQ.out _ B3.out); clear hb)
      | ((with_reducible refine (HDs.out _ (HD.out _ B3.out)).mono ?_); rintro e z4 ⟨A4, C4, rfl, hb⟩; have B4 := Lib.hid (B3.out.trans (hb.mono B3.out.size)); have Q4 := Lib.hid (HQ.out _ B4.out); clear hb)
      | ((with_reducible refine (HXg.out a3 b3 c3 d3 _ (M3.out.1.later B4.out) (M3.out.2.later B4.out)).mono ?_); rintro e z5 ⟨A5, C5, rfl, hb⟩; have B5 := Lib.hid (B4.out.trans (hb.mono B4.out.size)); have Q5 := Lib.hid (HQ.out _ B5.out); clear hb)
      | ((with_reducible refine (HDg.out _ (HD.out _ B5.out)).mono ?_); rintro e z6 ⟨A6, C6, rfl, hb⟩; have B6 := Lib.hid (B5.out.trans (hb.mono B5.out.size)); have Q6 := Lib.hid (HQ.out _ B6.out); clear hb))
  go_wp2_with fail
  go_ret
  exact ⟨rfl, HD.out _ B6.out⟩
theorem lidm_any (S M : List Int) (L : Int) (aS aM : Option Addr) (cS cM : Nat) (w : World) (ht : Pow10 w) (_ : S.length ≤ maxLen) (_ : M.length ≤ maxLen) (_ : (Lit.int .i64 L).wf = true) (hS : IntsAt w aS S) (hM : IntsAt w aM M) :
    Calls Tryd.prog 10 #[.agg #[.slice aS S.length cS, .slice aM M.length cM, .int .i64 L]] w fun e w' => e = .returned (.bool true) ∧ Below w.heap.size w w' := by
  cases hg : greatB S M L
  · cases hv : vldB S M L
    · exact lidm_no S M L aS aM cS cM w ht hg hv hS hM
    · exact lidm_yes S M L aS aM cS cM w ht hg hv hS hM
  · exact lidm_great S M L aS aM cS cM w ht hg
end Go.Proofs.YtmhhjchnjaefhaaDoor

namespace Go.Proofs.YtmhhjchnjaefhaaDoor
open Go Go.RowKit Go.ChangeShapes Go.WideShapes Go.ChangeAt Go.Joins
theorem canonIdempotent_k0 : (Rows.canonIdempotentRow.wf (OpenSpec.ofChange Rows.canonIdempotentSpec)) = true := by kernel_rfl
theorem canonIdempotent_k3 : (Tryd.f10.params.all (Tryd.prog.readableRec ·)) = true := by kernel_rfl
theorem canonIdempotent_k4 : (namedTie Tryd.prog Rows.canonIdempotentRow.named Rows.canonIdempotentSpec.vars) = true := by kernel_rfl
theorem canonIdempotent_k5 : (Rows.canonIdempotentRow.stops == []) = true := by kernel_rfl
theorem canonIdempotent_k7 : (Rows.canonIdempotentRow.knobs == []) = true := by kernel_rfl
theorem canonIdempotent_k9 : (Rows.canonIdempotentRow.inPlace == Tryd.prog.inPlace 10) = true := by kernel_rfl
theorem canonIdempotent_k10 : (Rows.canonIdempotentRow.unfollowed == Tryd.prog.unfollowed 10) = true := by kernel_rfl
theorem canonIdempotent_k11 : (Rows.canonIdempotentRow.recurses == Tryd.prog.recurses 10) = true := by kernel_rfl
theorem canonIdempotent_k12 : (Rows.canonIdempotentRow.named == Tryd.prog.varsNamed 10) = true := by kernel_rfl
theorem canonIdempotent_k13 : (Rows.canonIdempotentRow.maps == (Tryd.f10.params.toList ++ Rows.canonIdempotentSpec.plain.varTypes Tryd.prog).any (Tryd.prog.mapsRec ·)) = true := by kernel_rfl
theorem canonIdempotent_k14 : (Rows.canonIdempotentRow.ifaces == (Tryd.f10.params.toList ++ Rows.canonIdempotentSpec.plain.varTypes Tryd.prog).any (Tryd.prog.ifacesRec ·)) = true := by kernel_rfl
theorem canonIdempotent_k15 : (Rows.canonIdempotentRow.mapsOut == Tryd.prog.mapsAmong Tryd.f10.resultTypes.toList) = true := by kernel_rfl
theorem canonIdempotent_k16 : (Rows.canonIdempotentRow.loops == (Tryd.f10.params.toList ++ Rows.canonIdempotentSpec.plain.varTypes Tryd.prog).any (Tryd.prog.loopsFrom ·)) = true := by kernel_rfl
theorem canonIdempotent_k17 : (Rows.canonIdempotentRow.wideKeys == (Tryd.f10.params.toList ++ Rows.canonIdempotentSpec.plain.varTypes Tryd.prog ++ Tryd.f10.resultTypes.toList).any (Tryd.prog.wideKeysFrom ·)) = true := by kernel_rfl
theorem canonIdempotent_k18 : (Rows.canonIdempotentSpec.vars.all (Tryd.prog.varReadable ·)) = true := by kernel_rfl
theorem canonIdempotent_k19 : (Tryd.f10.resultTypes.all (fun t => Tryd.prog.readableRec t && decide (t < Tryd.prog.types.size))) = true := by kernel_rfl
theorem canonIdempotent_k20 : (Rows.canonIdempotentRow.ifacesOut == Tryd.f10.resultTypes.toList.any (Tryd.prog.ifacesRec ·)) = true := by kernel_rfl
theorem canonIdempotent_k21 : (Rows.canonIdempotentRow.loopsOut == Tryd.f10.resultTypes.toList.any (Tryd.prog.loopsFrom ·)) = true := by kernel_rfl
theorem canonIdempotent_k22 : (Rows.canonIdempotentRow.plainKeys == Tryd.prog.plainKeys) = true := by rw [prog_keys]; rfl
theorem canonIdempotent_k23 : (Rows.canonIdempotentRow.shortTexts.isNone) = true := by kernel_rfl
theorem canonIdempotent_k26 : (Rows.canonIdempotentRow.lifted == Tryd.prog.liftsFinal) = true := by rw [prog_final]; rfl
theorem canonIdempotent_k27 : (Tryd.prog.make == some Rows.canonIdempotentRow.make) = true := by rw [prog_make]; rfl
theorem canonIdempotent_k28 : (Rows.canonIdempotentRow.kinds == (if Rows.canonIdempotentRow.domain.isEmpty then [] else Tryd.f10.params.toList.map fun t => match Tryd.prog.underlying t with | some (.int k) => some k | _ => none)) = true := by kernel_rfl
theorem canonIdempotent_k29 : (Rows.canonIdempotentRow.pinned == Rows.canonIdempotentRow.pinnedBy) = true := by kernel_rfl
theorem canonIdempotent_k30 : (Rows.canonIdempotentRow.veiled == (Tryd.f10.params.toList ++ Rows.canonIdempotentSpec.plain.varTypes Tryd.prog ++ Tryd.f10.resultTypes.toList).any (Tryd.prog.veiledRec ·)) = true := by kernel_rfl
theorem canonIdempotent_k31 : (Rows.canonIdempotentRow.veiledFits Tryd.prog Tryd.f10.params.toList (Tryd.f10.params.toList ++ Rows.canonIdempotentSpec.plain.varTypes Tryd.prog ++ Tryd.f10.resultTypes.toList)) = true := by kernel_rfl
set_option maxRecDepth 100000 in
theorem canonIdempotent_closed : joinedFacts Tryd.prog 10 Tryd.f10 Rows.canonIdempotentSpec Rows.canonIdempotentRow = true := (and2 (and2 (and2 (and2 (and2 (and2 (and2 (and2 (and2 (and2 (and2 (and2 (and2 (and2 (and2 (and2 (and2 (and2 (and2 (and2 (and2 (and2 (and2 (and2 (and2 (and2 (and2 (and2 (and2 (and2 (and2 canonIdempotent_k0 laidOut) prog_maps) canonIdempotent_k3) canonIdempotent_k4) canonIdempotent_k5) prog_stops) canonIdempotent_k7) prog_knobs) canonIdempotent_k9) canonIdempotent_k10) canonIdempotent_k11) canonIdempotent_k12) canonIdempotent_k13) canonIdempotent_k14) canonIdempotent_k15) canonIdempotent_k16) canonIdempotent_k17) canonIdempotent_k18) canonIdempotent_k19) canonIdempotent_k20) canonIdempotent_k21) canonIdempotent_k22) canonIdempotent_k23) prog_heard) prog_enter) canonIdempotent_k26) canonIdempotent_k27) canonIdempotent_k28) canonIdempotent_k29) canonIdempotent_k30) canonIdempotent_k31)
theorem canonIdempotent_named : Tryd.prog.funcNamed Rows.canonIdempotentRow.func = some 10 := by kernel_rfl
theorem canonIdempotent_inst : Tryd.f10.isInstance Tryd.prog Rows.canonIdempotentRow.origin Rows.canonIdempotentRow.targs := of_decide_eq_true (by kernel_rfl)
theorem canonIdempotent_wrap : Tryd.f10.isWrapper Tryd.prog Rows.canonIdempotentRow.wrapper Rows.canonIdempotentRow.mainSum := by unfold Func.isWrapper; first | (rw [if_pos (by decide +kernel)]; kernel_rfl) | (rw [if_neg (by decide +kernel)]; exact ⟨rfl, rfl⟩)
set_option maxRecDepth 100000 in
theorem canonIdempotent_door (os : Os) (args : Array Value) : laidMetH Tryd.prog Rows.canonIdempotentRow.laid ((World.doorLaid Tryd.prog 400 os).forCall (fun _ _ => 0) ⟨#[], args, []⟩).memory :=
  laidMetH_of_parts3 (fuel := 8) (laidMet_of_run' 8 (by kernel_rfl) (by kernel_rfl)) (by kernel_rfl) (by kernel_rfl)
set_option maxRecDepth 100000 in
theorem canonIdempotent_lifted (os : Os) (started : os.Started) (H : Type) (enc : TypeId × Value → H) :
    ReturnsInHanded {} Tryd.checked os 10 .any (fun w args => (Rows.canonIdempotentSpec.pre enc Tryd.prog Tryd.f10 [] false w args ∧ laidMetH Tryd.prog Rows.canonIdempotentRow.laid w) ∧ sizedMet enc Tryd.prog Tryd.f10 (OpenSpec.ofChange Rows.canonIdempotentSpec) false w args) (Rows.canonIdempotentSpec.post enc Tryd.prog Tryd.f10 false true false false) := by
  refine returnsInHanded_of_change_and (C := Tryd.checked) (X := fun w _ => laidMetH Tryd.prog Rows.canonIdempotentRow.laid w) (fun _ _ _ hh h => h.of_heap hh) own started (by kernel_rfl) Tryd.func10
    (ChangeSpec.witness_shaped (enc := enc) (C := Tryd.checked) (os := os) (X := fun w _ => laidMetH Tryd.prog Rows.canonIdempotentRow.laid w) false (World.doorLaid Tryd.prog 400 os) #[.agg #[.slice none 0 0, .slice none 0 0, .int .i64 0]] 8 rfl (World.shaped_of_RefB (by kernel_rfl) (by kernel_rfl)) (by kernel_rfl) (by kernel_rfl) (by kernel_rfl) (canonIdempotent_door os _)) ?_
  intro W base args ds gs before hval0 hW hcnd _ hL _
  have hval : ∀ (j : Nat) t v, Tryd.f10.params[j]? = some t → args[j]? = some v → Value.okWide Tryd.prog W .any base t v := hval0
  have hW' := hW
  obtain ⟨p, q, hA0, hV, rfl, hfz, hnd⟩ := hW
  have hA : DataW.TrodAll enc Tryd.prog W 0 (fun _ => true) true Tryd.f10.params.toList args.toList ds p := hA0
  rw [Tryd.params10] at hA hval
  obtain ⟨v0, vs0, d0, ds0, p0, q0, hargs, rfl, rfl, h0, r0⟩ := trodAll_cons hA
  obtain ⟨rfl, rfl, rfl⟩ := trodAll_nil r0
  obtain rfl : args = #[v0] := by cases args; simp_all
  obtain ⟨rfl, rfl⟩ := trodVars_none hV
  obtain ⟨S0, M0, L0, aS0, aM0, cS0, cM0, rfl, hS0, hM0, lS0, lM0, wL0⟩ := open_diag (hval 0 24 v0 rfl rfl) h0
  have k0 := h0
  have lt0 : ∀ x ∈ p0, x.block < W.heap.size := by obtain ⟨m, hm⟩ := k0; exact DataW.trod_lt m _ _ _ hm
  clear hA0 hval0
  have hL2 : laidMet Tryd.prog Rows.canonIdempotentRow.laid W := hL
  have ht : Pow10 W := Lib.tabIs_of_head (g := 0) (t := 93) (e := 85) (n := 20) (by kernel_rfl) (by kernel_rfl) Tryd.underlying93 Tryd.underlying85 (by kernel_rfl) (by kernel_rfl) hL2.tail.tail
  refine (lidm_any S0 M0 L0 aS0 aM0 cS0 cM0 W ht lS0 lM0 wL0 hS0 hM0).mono fun e W' ⟨he, bel⟩ => ?_
  subst he
  exact ⟨_, rfl, _, _, _, [], _, [], hW', trodAll_mk1 (shut_bool Tryd.underlying4 _), (trodAll_cons_mk (Below.trod laidOut (by kernel_rfl) (of_decide_eq_true (by kernel_rfl)) k0 bel lt0) trodAll_mk0), rfl, bel.frame _, fun h => by cases h⟩
theorem canonIdempotent_row : Rows.CanonIdempotentSaid :=
  OpenClaim.holds_of_wide 10 Tryd.f10 rfl rfl rfl rfl rfl rfl rfl ⟨rfl, rfl, rfl, rfl, rfl⟩ rfl rfl rfl rfl rfl canonIdempotent_named Tryd.func10 canonIdempotent_closed canonIdempotent_inst canonIdempotent_wrap
    (fun os started H enc _ => canonIdempotent_lifted os started H enc)
theorem canonIdempotent_holds : Rows.CanonIdempotentCardSaid :=
  Claim7.holds_tied_plain_at .later [] [.data, .data, .data] true (true, "ecca1c5326bbd5663b8762b21df597a0e1f6b3c513ffeef2692957e3ec8b1300") false
    canonIdempotent_row (fun _ h => by cases h) (by kernel_rfl) (fun _ h => by cases h) canonIdempotent_row_tie rfl ⟨rfl, rfl⟩ (by kernel_rfl) rfl
    (fun f fn hf hfn => by
      obtain rfl : f = 10 := Option.some.inj (canonIdempotent_named.symm.trans hf) |>.symm
      obtain rfl : fn = Tryd.f10 := (Option.some.inj (Tryd.func10.symm.trans hfn)).symm
      exact ⟨by kernel_rfl, fun j t ht => by
        rw [Tryd.params10] at ht
        have hm : t ∈ [24] := by
          have := Array.mem_of_getElem? ht
          simpa using this
        have hall : ([24].all fun u => !Tryd.prog.wantsStandIn u) = true := by kernel_rfl
        exact (show Tryd.prog.wantsStandIn t = false by simpa using List.all_eq_true.1 hall t hm)⟩)
    (by kernel_rfl)
#print axioms canonIdempotent_holds
end Go.Proofs.YtmhhjchnjaefhaaDoor

