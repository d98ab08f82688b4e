/- diagram.Renumber: what it answers for any diagram and any numbers. law07's great: is a diagram beyond the limits of the statements? The walk of the law ConnectUnique. -/
import Derived.WalkKit
import Derived.WalkSpells
import Derived.WalkLawsBesides
import Derived.Deep.AppendSrc
import Derived.Deep.LoopGhost
import Derived.Deep.QuietTactic
import Derived.Deep.RegionWith
import Derived.Deep.DeepMust
import Derived.Deep.DeepFit
import Derived.BigQuiet
import Derived.Lib.Hide
import Derived.Outline
import Derived.Test.YtmjoijfafachhaaGreatDoorProg
import Derived.Deep.Matrix
import Derived.Deep.DeepCutAuto
import Derived.Deep.RegionLaw
import Derived.Deep.RegionHeld3
import Derived.Shelf.Strings.Builder1
import Derived.Shelf.Small.Bits
import Derived.Shelf.Small.Wraps
import Derived.Shelf.Strings.BuilderF
import Derived.Shelf.Strings.BuilderK
import Derived.Shelf.Strconv.Itoa0
import Derived.Shelf.Strconv.Itoa1
import Derived.Shelf.LaysM
import Derived.Shelf.Strconv.Itoa2
import Derived.Shelf.Strconv.Itoa3
import Derived.Shelf.Sort.Plain
import Derived.Shelf.Slices.Turned
import Derived.Shelf.Slices.Equal
import Derived.Ground.Names2Prog
import Derived.Shelf.Slices.Clone
import Derived.Shelf.Slices.CompactI
import Derived.Shelf.Slices.SearchI
import Derived.Shelf.Slices.Cells
import Derived.Shelf.Slices.In.SortNone
import Derived.Shelf.Slices.Empties2
import Derived.Ground.SlgnProg
import Derived.Shelf.SlicesE.Clone
import Derived.Lib.AppendZeros
import Derived.Deep.RegionHeld
import Derived.Lib.SliceRun
import Derived.Sort.OwnSortedInts
import Derived.Lib.Builder
import Derived.Lib.AppendStr
import Derived.Lib.Walk
import Derived.Laws.Externs
import Derived.Lib.AppendIntMem
import Derived.Test.YtmjoijfafachhaaGreatDoorZuAa
import Derived.Test.YtmjoijfafachhaaGreatDoorZuAb
import Derived.Test.YtmjoijfafachhaaGreatDoorZuAc
import Derived.Test.YtmjoijfafachhaaGreatDoorZuAd
import Derived.Test.YtmjoijfafachhaaGreatDoorZuAe
import Derived.Test.YtmjoijfafachhaaGreatDoorZuAf
import Derived.Test.YtmjoijfafachhaaGreatDoorZuAg
import Derived.Test.YtmjoijfafachhaaGreatDoorZuAh
import Derived.Test.YtmjoijfafachhaaGreatDoorZuAj
import Derived.Test.YtmjoijfafachhaaGreatDoorZuAk
import Derived.Test.YtmjoijfafachhaaGreatDoorZuAl
import Derived.Test.YtmjoijfafachhaaGreatDoorZuAm
import Derived.Test.YtmjoijfafachhaaGreatDoorZuAn
import Derived.Test.YtmjoijfafachhaaGreatDoorZuAo
import Derived.Test.YtmjoijfafachhaaGreatDoorZuAp
import Derived.Test.YtmjoijfafachhaaGreatDoorZuAq
import Derived.Test.YtmjoijfafachhaaGreatDoorZuAr
import Derived.Test.YtmjoijfafachhaaGreatDoorZuAs
import Derived.Test.YtmjoijfafachhaaGreatDoorZuAt
import Derived.Test.YtmjoijfafachhaaGreatDoorZuAu
import Derived.Test.YtmjoijfafachhaaGreatDoorZuAv
import Derived.Test.YtmjoijfafachhaaGreatDoorZuAw
import Derived.Test.YtmjoijfafachhaaGreatDoorZuAx
import Derived.Test.YtmjoijfafachhaaGreatDoorZuAy
import Derived.Test.YtmjoijfafachhaaGreatDoorZuBa
import Derived.Test.YtmjoijfafachhaaGreatDoorZuAi
import Derived.Test.YtmjoijfafachhaaGreatDoorZuAz
namespace Go.Proofs.YtmjoijfafachhaaGreatDoor
open Go Go.RowKit
theorem renum_yes (S M : List Int) (L : Int) (aS aM : Option Addr) (cS cM : Nat) (aO : Option Addr) (cO : Nat) (o : List Nat) (w : World) (hv : vldB S M L = true) (ho : o.Perm (List.range S.length)) (hS : IntsAt w aS S) (hM : IntsAt w aM M) (hO : IntsAt w aO (nats o)) :
    Calls Tryz.prog 6 #[.agg #[.slice aS S.length cS, .slice aM M.length cM, .int .i64 L], .slice aO (nats o).length cO] w fun e w' => ∃ a b c d, e = .returned (.tuple #[.agg #[.slice a S.length c, .slice b M.length d, .int .i64 L], .int .i64 0]) ∧ Own w' w.heap.size 3 a c (ints (partS S o)) ∧ Own w' w.heap.size 3 b d (ints (partM M o)) ∧ Below w.heap.size w w' := by
  have hs := vldB_shape hv
  have hl : o.length = S.length := by have := ho.length_eq; rwa [List.length_range] at this
  have hOl : (nats o).length = S.length := by rw [nats_length]; exact hl
  have g := renumber_same S M (nats o) L aS aM aO cS cM cO w hv hOl hS hM hO
  rw [hOl]
  refine g.mono ?_
  rintro e w' (⟨hn, _⟩ | ⟨_, a, b, c, d, rfl, h1, h2, hb⟩)
  · exact absurd ⟨hOl, perm_good ho⟩ hn
  · rw [rnS_part hl] at h1 ⊢
    rw [rnM_part hs.mates ho] at h2 ⊢
    refine ⟨a, b, c, d, ?_, h1, h2, hb⟩
    rw [partS_len, partM_len, hl, hs.len]
theorem renum_no (S M : List Int) (L : Int) (aS aM : Option Addr) (cS cM : Nat) (aO : Option Addr) (cO : Nat) (O : List Int) (w : World) (hv : vldB S M L = true) (hOl : O.length ≤ 1000000000) (ho : ¬ Ord O S.length) (hS : IntsAt w aS S) (hM : IntsAt w aM M) (hO : IntsAt w aO O) :
    Calls Tryz.prog 6 #[.agg #[.slice aS S.length cS, .slice aM M.length cM, .int .i64 L], .slice aO O.length cO] w fun e w' => e = .returned (.tuple #[.agg #[.slice none 0 0, .slice none 0 0, .int .i64 0], .int .i64 2]) ∧ Below w.heap.size w w' := by
  by_cases hl : O.length = S.length
  · have g := renumber_same S M O L aS aM aO cS cM cO w hv hl hS hM hO
    rw [hl]
    refine g.mono ?_
    rintro e w' (⟨_, rfl, hb⟩ | ⟨hg, _⟩)
    · exact ⟨rfl, hb⟩
    · exact absurd (good_ord hl hg.2) ho
  · refine (renumber_short S M O L aS aM aO cS cM cO w hv hOl hl hS hM hO).mono ?_
    rintro e w' (⟨_, rfl, hb⟩ | ⟨hg, _⟩)
    · exact ⟨rfl, hb⟩
    · exact absurd hg.1 hl
set_option maxRecDepth 100000 in
set_option maxHeartbeats 1000000 in
theorem renum_bad (S M : List Int) (L : Int) (aS aM : Option Addr) (cS cM : Nat) (aO : Option Addr) (cO nO : Nat) (w : World) (hSl : S.length ≤ 1000000000) (hMl : M.length ≤ 1000000000) (hv : vldB S M L = false) (hS : IntsAt w aS S) (hM : IntsAt w aM M) :
    Calls Tryz.prog 6 #[.agg #[.slice aS S.length cS, .slice aM M.length cM, .int .i64 L], .slice aO nO cO] w fun e w' => e = .returned (.tuple #[.agg #[.slice none 0 0, .slice none 0 0, .int .i64 0], .int .i64 1]) ∧ Below w.heap.size w w' := by
  have HV : Hid (∀ W', Below w.heap.size w W' → Calls Tryz.prog 15 #[.agg #[.slice aS S.length cS, .slice aM M.length cM, .int .i64 L]] W' fun e w' => e = .returned (.bool false) ∧ Below W'.heap.size W' w') := Lib.hid fun W' h => by
    have g := valid_any S M L aS aM cS cM W' (by omega) (by omega) (hS.later h) (hM.later h)
    rw [hv] at g; exact g
  have H0 := Lib.hid (((HH.start w).alloc #[.slice aS S.length cS, .slice aM M.length cM, .int .i64 L] 24 rfl rfl).alloc #[.slice none 0 0, .slice none 0 0, .int .i64 0] 24 (b := w.heap.size + 1) (by simp) rfl)
  clear hv hS hM
  generalize S.length = n at *
  generalize M.length = N at *
  go_enter Tryz.func6, Tryz.ntmps6
  have k00 := H0.out.cell (k := 0) (i := 0) rfl rfl
  have k01 := H0.out.cell (k := 0) (i := 1) rfl rfl
  have k02 := H0.out.cell (k := 0) (i := 2) rfl rfl
  go_wp2_with fail
  clear k00 k01 k02
  refine (HV.out _ H0.out.below).mono ?_
  rintro e w1 ⟨rfl, hb⟩
  have H1 := Lib.hid (H0.out.call hb)
  clear hb H0 
  have k10 := H1.out.cell (k := 1) (i := 0) rfl rfl
  have k11 := H1.out.cell (k := 1) (i := 1) rfl rfl
  have k12 := H1.out.cell (k := 1) (i := 2) rfl rfl
  have f10 := H1.out.frozen (k := 1) rfl 0
  have f11 := H1.out.frozen (k := 1) rfl 1
  have f12 := H1.out.frozen (k := 1) rfl 2
  have H9 := (((H1.out.set (k := 1) rfl 0 (.slice none 0 0)).set (k := 1) rfl 1 (.slice none 0 0)).set (k := 1) rfl 2 (.int .i64 0))
  have hF10 := H9.cell (k := 1) (i := 0) rfl rfl
  have hF11 := H9.cell (k := 1) (i := 1) rfl rfl
  have hF12 := H9.cell (k := 1) (i := 2) rfl rfl
  have Hfin := Lib.hid H9
  clear H9
  go_wp2_with fail
  refine bodyPost_ret (v := .tuple #[.agg #[.slice none 0 0, .slice none 0 0, .int .i64 0], .int .i64 1]) (by simp [results, Tryz.results6, go_sem, hF10, hF11, hF12]) rfl ?_
  exact ⟨rfl, Hfin.out.below⟩
end Go.Proofs.YtmjoijfafachhaaGreatDoor

namespace Go.Proofs.YtmjoijfafachhaaGreatDoor
open Go Go.RowKit
def greatB (S M : List Int) (L : Int) : Bool := decide (14 < S.length) || (decide (60 < M.length) || (decide (10 < L) && decide (L ≤ 64)))
theorem greatB_no {S M : List Int} {L : Int} (h : greatB S M L = false) : S.length ≤ 14 ∧ M.length ≤ 60 := by
  unfold greatB at h
  simp only [Bool.or_eq_false_iff, decide_eq_false_iff_not] at h
  omega
set_option maxRecDepth 100000 in
set_option maxHeartbeats 2000000 in
theorem great_any (S M : List Int) (L : Int) (aS aM : Option Addr) (cS cM : Nat) (w : World) :
    Calls Tryz.prog 5 #[.agg #[.slice aS S.length cS, .slice aM M.length cM, .int .i64 L]] w fun e w' => e = .returned (.bool (greatB S M L)) ∧ Below w.heap.size w w' := by
  have H0 := Lib.hid ((HH.start w).alloc #[.slice aS S.length cS, .slice aM M.length cM, .int .i64 L] 24 rfl rfl)
  have HG : Hid (greatB S M L = (decide (14 < S.length) || (decide (60 < M.length) || (decide (10 < L) && decide (L ≤ 64))))) := Lib.hid rfl
  rw [HG.out]
  clear HG
  generalize S.length = n at *
  generalize M.length = m at *
  go_enter Tryz.func5, Tryz.ntmps5
  by_cases h1 : 14 < n
  · have d1 : decide ((14 : Int) < (n : Int)) = true := decide_eq_true (by omega)
    have d2 : decide (14 < n) = true := decide_eq_true h1
    rw [d2]
    go_wp2_with fail
    go_ret
    exact ⟨rfl, H0.out.below⟩
  · have d1 : decide ((14 : Int) < (n : Int)) = false := decide_eq_false (by omega)
    have d2 : decide (14 < n) = false := decide_eq_false h1
    rw [d2]
    by_cases h2 : 60 < m
    · have d3 : decide ((60 : Int) < (m : Int)) = true := decide_eq_true (by omega)
      have d4 : decide (60 < m) = true := decide_eq_true h2
      rw [d4]
      go_wp2_with fail
      go_ret
      exact ⟨rfl, H0.out.below⟩
    · have d3 : decide ((60 : Int) < (m : Int)) = false := decide_eq_false (by omega)
      have d4 : decide (60 < m) = false := decide_eq_false h2
      rw [d4]
      by_cases h3 : 10 < L
      · have d5 : decide (10 < L) = true := decide_eq_true h3
        rw [d5]
        go_wp2_with fail
        go_ret
        exact ⟨rfl, H0.out.below⟩
      · have d5 : decide (10 < L) = false := decide_eq_false h3
        rw [d5]
        go_wp2_with fail
        go_ret
        exact ⟨rfl, H0.out.below⟩
end Go.Proofs.YtmjoijfafachhaaGreatDoor


namespace Go.Proofs.YtmjoijfafachhaaGreatDoor
open Go Go.RowKit
set_option maxRecDepth 100000 in
set_option maxHeartbeats 4000000 in
theorem lunq_great (S M : List Int) (L : Int) (aS aM : Option Addr) (cS cM : Nat) (aO : Option Addr) (cO : Nat) (O : List Int) (w : World) (hg : greatB S M L = true) :
    Calls Tryz.prog 3 #[.agg #[.slice aS S.length cS, .slice aM M.length cM, .int .i64 L], .slice aO O.length cO] w fun e w' => e = .returned (.bool true) ∧ Below w.heap.size w w' := by
  have HA : Hid (∀ W', Below w.heap.size w W' → Calls Tryz.prog 4 #[] W' fun e w' => e = .returned (.bool true) ∧ Below W'.heap.size W' w') := Lib.hid fun W' _ => awake_any W'
  have HG : Hid (∀ W', Calls Tryz.prog 5 #[.agg #[.slice aS S.length cS, .slice aM M.length cM, .int .i64 L]] W' fun e w' => e = .returned (.bool true) ∧ Below W'.heap.size W' w') := Lib.hid fun W' => by
    have g := great_any S M L aS aM cS cM W'
    rw [hg] at g; exact g
  have H0 := Lib.hid ((HH.start w).alloc #[.slice aS S.length cS, .slice aM M.length cM, .int .i64 L] 24 rfl rfl)
  clear hg
  generalize S.length = n at *
  generalize M.length = N at *
  generalize O.length = l at *
  go_enter Tryz.func3, Tryz.ntmps3
  go_wp2_with fail
  refine (HA.out _ H0.out.below).mono ?_
  rintro e w1 ⟨rfl, hb⟩
  have H1 := Lib.hid (H0.out.call hb)
  clear hb H0 
  have k00 := H1.out.cell (k := 0) (i := 0) rfl rfl
  have k01 := H1.out.cell (k := 0) (i := 1) rfl rfl
  have k02 := H1.out.cell (k := 0) (i := 2) rfl rfl
  go_wp2_with fail
  clear k00 k01 k02
  refine (HG.out _).mono ?_
  rintro e w2 ⟨rfl, hb⟩
  have H2 := Lib.hid (H1.out.call hb)
  clear hb H1 
  go_wp2_with fail
  go_ret
  exact ⟨rfl, H2.out.below⟩
set_option maxRecDepth 100000 in
set_option maxHeartbeats 4000000 in
theorem lunq_long (S M : List Int) (L : Int) (aS aM : Option Addr) (cS cM : Nat) (aO : Option Addr) (cO : Nat) (O : List Int) (w : World) (hg : greatB S M L = false) (hl : 20 < O.length) :
    Calls Tryz.prog 3 #[.agg #[.slice aS S.length cS, .slice aM M.length cM, .int .i64 L], .slice aO O.length cO] w fun e w' => e = .returned (.bool true) ∧ Below w.heap.size w w' := by
  have HA : Hid (∀ W', Below w.heap.size w W' → Calls Tryz.prog 4 #[] W' fun e w' => e = .returned (.bool true) ∧ Below W'.heap.size W' w') := Lib.hid fun W' _ => awake_any W'
  have HG : Hid (∀ W', Calls Tryz.prog 5 #[.agg #[.slice aS S.length cS, .slice aM M.length cM, .int .i64 L]] W' fun e w' => e = .returned (.bool false) ∧ Below W'.heap.size W' w') := Lib.hid fun W' => by
    have g := great_any S M L aS aM cS cM W'
    rw [hg] at g; exact g
  have t1 : decide ((20 : Int) < (O.length : Int)) = true := decide_eq_true (by omega)
  have t2 : decide (20 < O.length) = true := decide_eq_true hl
  have H0 := Lib.hid ((HH.start w).alloc #[.slice aS S.length cS, .slice aM M.length cM, .int .i64 L] 24 rfl rfl)
  clear hg hl
  generalize S.length = n at *
  generalize M.length = N at *
  generalize O.length = l at *
  go_enter Tryz.func3, Tryz.ntmps3
  go_wp2_with fail
  refine (HA.out _ H0.out.below).mono ?_
  rintro e w1 ⟨rfl, hb⟩
  have H1 := Lib.hid (H0.out.call hb)
  clear hb H0 
  have k00 := H1.out.cell (k := 0) (i := 0) rfl rfl
  have k01 := H1.out.cell (k := 0) (i := 1) rfl rfl
  have k02 := H1.out.cell (k := 0) (i := 2) rfl rfl
  go_wp2_with fail
  clear k00 k01 k02
  refine (HG.out _).mono ?_
  rintro e w2 ⟨rfl, hb⟩
  have H2 := Lib.hid (H1.out.call hb)
  clear hb H1 
  go_wp2_with fail
  go_ret
  exact ⟨rfl, H2.out.below⟩
set_option maxRecDepth 100000 in
set_option maxHeartbeats 4000000 in
theorem lunq_bad (S M : List Int) (L : Int) (aS aM : Option Addr) (cS cM : Nat) (aO : Option Addr) (cO : Nat) (O : List Int) (w : World) (hg : greatB S M L = false) (hl : O.length ≤ 20) (hv : vldB S M L = false) (hS : IntsAt w aS S) (hM : IntsAt w aM M) (_ : IntsAt w aO O) :
    Calls Tryz.prog 3 #[.agg #[.slice aS S.length cS, .slice aM M.length cM, .int .i64 L], .slice aO O.length cO] w fun e w' => e = .returned (.bool true) ∧ Below w.heap.size w w' := by
  have HA : Hid (∀ W', Below w.heap.size w W' → Calls Tryz.prog 4 #[] W' fun e w' => e = .returned (.bool true) ∧ Below W'.heap.size W' w') := Lib.hid fun W' _ => awake_any W'
  have HG : Hid (∀ W', Calls Tryz.prog 5 #[.agg #[.slice aS S.length cS, .slice aM M.length cM, .int .i64 L]] W' fun e w' => e = .returned (.bool false) ∧ Below W'.heap.size W' w') := Lib.hid fun W' => by
    have g := great_any S M L aS aM cS cM W'
    rw [hg] at g; exact g
  obtain ⟨hg1, hg2⟩ := greatB_no hg
  have t1 : decide ((20 : Int) < (O.length : Int)) = false := decide_eq_false (by omega)
  have t2 : decide (20 < O.length) = false := decide_eq_false (by omega)
  have HR : Hid (∀ W', Below w.heap.size w W' → Calls Tryz.prog 6 #[.agg #[.slice aS S.length cS, .slice aM M.length cM, .int .i64 L], .slice aO O.length cO] W' fun e w' => e = .returned (.tuple #[.agg #[.slice none 0 0, .slice none 0 0, .int .i64 0], .int .i64 1]) ∧ Below W'.heap.size W' w') := Lib.hid fun W' h => renum_bad S M L aS aM cS cM aO cO O.length W' (by omega) (by omega) hv (hS.later h) (hM.later h)
  have H0 := Lib.hid ((HH.start w).alloc #[.slice aS S.length cS, .slice aM M.length cM, .int .i64 L] 24 rfl rfl)
  clear hg hS hM hl hv
  generalize S.length = n at *
  generalize M.length = N at *
  generalize O.length = l at *
  go_enter Tryz.func3, Tryz.ntmps3
  go_wp2_with fail
  refine (HA.out _ H0.out.below).mono ?_
  rintro e w1 ⟨rfl, hb⟩
  have H1 := Lib.hid (H0.out.call hb)
  clear hb H0 
  have k00 := H1.out.cell (k := 0) (i := 0) rfl rfl
  have k01 := H1.out.cell (k := 0) (i := 1) rfl rfl
  have k02 := H1.out.cell (k := 0) (i := 2) rfl rfl
  go_wp2_with fail
  clear k00 k01 k02
  refine (HG.out _).mono ?_
  rintro e w2 ⟨rfl, hb⟩
  have H2 := Lib.hid (H1.out.call hb)
  clear hb H1 
  have k00 := H2.out.cell (k := 0) (i := 0) rfl rfl
  have k01 := H2.out.cell (k := 0) (i := 1) rfl rfl
  have k02 := H2.out.cell (k := 0) (i := 2) rfl rfl
  go_wp2_with fail
  clear k00 k01 k02
  refine (HR.out _ H2.out.below).mono ?_
  rintro e w3 ⟨rfl, hb⟩
  have H3 := Lib.hid (H2.out.call hb)
  clear hb H2 
  have HB := Lib.hid (H3.out.below.alloc H3.out.below.size (.cells #[.slice none 0 0, .slice none 0 0, .int .i64 0] 24))
  go_upto_region 6 with fail
  clear H3
  go_quiet (fail)
  go_wp2_with fail
  go_ret
  exact ⟨rfl, below_drewNN HB.out _⟩
set_option maxRecDepth 100000 in
set_option maxHeartbeats 4000000 in
theorem lunq_no (S M : List Int) (L : Int) (aS aM : Option Addr) (cS cM : Nat) (aO : Option Addr) (cO : Nat) (O : List Int) (w : World) (hg : greatB S M L = false) (hl : O.length ≤ 20) (hv : vldB S M L = true) (ho : ¬ Ord O S.length) (hS : IntsAt w aS S) (hM : IntsAt w aM M) (hO : IntsAt w aO O) :
    Calls Tryz.prog 3 #[.agg #[.slice aS S.length cS, .slice aM M.length cM, .int .i64 L], .slice aO O.length cO] w fun e w' => e = .returned (.bool true) ∧ Below w.heap.size w w' := by
  have HA : Hid (∀ W', Below w.heap.size w W' → Calls Tryz.prog 4 #[] W' fun e w' => e = .returned (.bool true) ∧ Below W'.heap.size W' w') := Lib.hid fun W' _ => awake_any W'
  have HG : Hid (∀ W', Calls Tryz.prog 5 #[.agg #[.slice aS S.length cS, .slice aM M.length cM, .int .i64 L]] W' fun e w' => e = .returned (.bool false) ∧ Below W'.heap.size W' w') := Lib.hid fun W' => by
    have g := great_any S M L aS aM cS cM W'
    rw [hg] at g; exact g
  obtain ⟨hg1, hg2⟩ := greatB_no hg
  have t1 : decide ((20 : Int) < (O.length : Int)) = false := decide_eq_false (by omega)
  have t2 : decide (20 < O.length) = false := decide_eq_false (by omega)
  have HR : Hid (∀ W', Below w.heap.size w W' → Calls Tryz.prog 6 #[.agg #[.slice aS S.length cS, .slice aM M.length cM, .int .i64 L], .slice aO O.length cO] W' fun e w' => e = .returned (.tuple #[.agg #[.slice none 0 0, .slice none 0 0, .int .i64 0], .int .i64 2]) ∧ Below W'.heap.size W' w') := Lib.hid fun W' h => renum_no S M L aS aM cS cM aO cO O W' hv (by omega) ho (hS.later h) (hM.later h) (hO.later h)
  have H0 := Lib.hid ((HH.start w).alloc #[.slice aS S.length cS, .slice aM M.length cM, .int .i64 L] 24 rfl rfl)
  clear hg hS hM hO hl hv ho
  generalize S.length = n at *
  generalize M.length = N at *
  generalize O.length = l at *
  go_enter Tryz.func3, Tryz.ntmps3
  go_wp2_with fail
  refine (HA.out _ H0.out.below).mono ?_
  rintro e w1 ⟨rfl, hb⟩
  have H1 := Lib.hid (H0.out.call hb)
  clear hb H0 
  have k00 := H1.out.cell (k := 0) (i := 0) rfl rfl
  have k01 := H1.out.cell (k := 0) (i := 1) rfl rfl
  have k02 := H1.out.cell (k := 0) (i := 2) rfl rfl
  go_wp2_with fail
  clear k00 k01 k02
  refine (HG.out _).mono ?_
  rintro e w2 ⟨rfl, hb⟩
  have H2 := Lib.hid (H1.out.call hb)
  clear hb H1 
  have k00 := H2.out.cell (k := 0) (i := 0) rfl rfl
  have k01 := H2.out.cell (k := 0) (i := 1) rfl rfl
  have k02 := H2.out.cell (k := 0) (i := 2) rfl rfl
  go_wp2_with fail
  clear k00 k01 k02
  refine (HR.out _ H2.out.below).mono ?_
  rintro e w3 ⟨rfl, hb⟩
  have H3 := Lib.hid (H2.out.call hb)
  clear hb H2 
  have HB := Lib.hid (H3.out.below.alloc H3.out.below.size (.cells #[.slice none 0 0, .slice none 0 0, .int .i64 0] 24))
  go_upto_region 6 with fail
  clear H3
  go_quiet (fail)
  go_wp2_with fail
  go_ret
  exact ⟨rfl, below_drewNN HB.out _⟩
/-- The keys of the factors are those of the renumbered one's. -/
theorem keys_same {S M : List Int} {L : Int} (hv : vldB S M L = true) {o : List Nat} (ho : o.Perm (List.range S.length)) : srtS ((factorsL S M L).map keyD) = srtS ((factorsL (partS S o) (partM M o) L).map keyD) := by
  have hs := vldB_shape hv
  have v : vldB (partS S o) (partM M o) L = true := part_valid hv (whole_perm hs.mates ho) hs.lo hs.hi
  have g : ∀ {T N : List Int}, vldB T N L = true → (factorsL T N L).map keyD = ((factorsL T N L).map codeD).map keyOf := fun {T N} hw => by
    rw [List.map_map]
    refine List.map_congr_left fun d hd => ?_
    show keyOf (cdV d.1 d.2.1 d.2.2) = keyOf (codeD d)
    rw [cdV_yes ((factors_good hw).1 d hd).1]; rfl
  rw [g hv, g v]
  exact srtS_perm ((factors_renum hv ho).map _)
theorem crs_cons (e : Dgm) (ds : List Dgm) : crs (e :: ds) = e.1.length + crs ds := by unfold crs; rw [List.map_cons, List.sum_cons]
theorem crs_mem {d : Dgm} : ∀ {ds : List Dgm}, d ∈ ds → d.1.length ≤ crs ds
  | [], h => by cases h
  | e :: ds, h => by
    rcases List.mem_cons.1 h with rfl | h
    · rw [crs_cons]; omega
    · have := crs_mem h; rw [crs_cons]; omega
theorem factors_small {S M : List Int} {L : Int} (hv : vldB S M L = true) (h : S.length ≤ 20) : ∀ d ∈ factorsL S M L, d.1.length ≤ 20 ∧ d.2.1.length ≤ 1000000000 := fun d hd => by
  obtain ⟨h1, h2⟩ := factors_good hv
  have h3 := crs_mem hd
  have h4 := vldB_shape (h1 d hd).1
  have h5 := h4.len
  omega
set_option maxRecDepth 100000 in
set_option maxHeartbeats 8000000 in
theorem lunq_yes (S M : List Int) (L : Int) (aS aM : Option Addr) (cS cM : Nat) (aO : Option Addr) (cO : Nat) (o : List Nat) (w : World) (ht : Pow10 w) (hg : greatB S M L = false) (hl : (nats o).length ≤ 20) (hv : vldB S M L = true) (ho : o.Perm (List.range S.length)) (hS : IntsAt w aS S) (hM : IntsAt w aM M) (hO : IntsAt w aO (nats o)) :
    Calls Tryz.prog 3 #[.agg #[.slice aS S.length cS, .slice aM M.length cM, .int .i64 L], .slice aO (nats o).length cO] w fun e w' => e = .returned (.bool true) ∧ Below w.heap.size w w' := by
  have HA : Hid (∀ W', Calls Tryz.prog 4 #[] W' fun e w' => e = .returned (.bool true) ∧ Below W'.heap.size W' w') := Lib.hid fun W' => awake_any W'
  have HG : Hid (∀ W', Calls Tryz.prog 5 #[.agg #[.slice aS S.length cS, .slice aM M.length cM, .int .i64 L]] W' fun e w' => e = .returned (.bool false) ∧ Below W'.heap.size W' w') := Lib.hid fun W' => by
    have g := great_any S M L aS aM cS cM W'
    rw [hg] at g; exact g
  obtain ⟨hg1, hg2⟩ := greatB_no hg
  have t1 : decide ((20 : Int) < ((nats o).length : Int)) = false := decide_eq_false (by omega)
  have t2 : decide (20 < (nats o).length) = false := decide_eq_false (by omega)
  have hs := vldB_shape hv
  have hol : o.length = S.length := by have := ho.length_eq; rwa [List.length_range] at this
  have pv : vldB (partS S o) (partM M o) L = true := part_valid hv (whole_perm hs.mates ho) hs.lo hs.hi
  have pl : (partS S o).length = S.length := by rw [partS_len, hol]
  have pl2 : (partM M o).length = M.length := by rw [partM_len, hol, hs.len]
  have HR : Hid (∀ W', Below w.heap.size w W' → Calls Tryz.prog 6 #[.agg #[.slice aS S.length cS, .slice aM M.length cM, .int .i64 L], .slice aO (nats o).length cO] W' fun e w' => ∃ a b c d, e = .returned (.tuple #[.agg #[.slice a S.length c, .slice b M.length d, .int .i64 L], .int .i64 0]) ∧ Own w' W'.heap.size 3 a c (ints (partS S o)) ∧ Own w' W'.heap.size 3 b d (ints (partM M o)) ∧ Below W'.heap.size W' w') := Lib.hid fun W' h => renum_yes S M L aS aM cS cM aO cO o W' hv ho (hS.later h) (hM.later h) (hO.later h)
  have HF : Hid (∀ W', Below w.heap.size w W' → Calls Tryz.prog 9 #[.agg #[.slice aS S.length cS, .slice aM M.length cM, .int .i64 L]] W' fun e w' => ∃ A C, e = .returned (.slice A (factorsL S M L).length C) ∧ RdD w' A (factorsL S M L) ∧ Below W'.heap.size W' w') := Lib.hid fun W' h => (factors_yes S M L aS aM cS cM W' 0 (Nat.zero_le _) hv (hS.later h) (hM.later h)).mono fun e w' ⟨A, C, he, hd, hb⟩ => ⟨A, C, he, hd.rd, hb⟩
  have HFx : Hid (∀ (a b : Option Addr) (c d : Nat) W', IntsAt W' a (partS S o) → IntsAt W' b (partM M o) → Calls Tryz.prog 9 #[.agg #[.slice a S.length c, .slice b M.length d, .int .i64 L]] W' fun e w' => ∃ A C, e = .returned (.slice A (factorsL (partS S o) (partM M o) L).length C) ∧ RdD w' A (factorsL (partS S o) (partM M o) L) ∧ Below W'.heap.size W' w') := Lib.hid fun a b c d W' h1 h2 => by
    have g := factors_yes (partS S o) (partM M o) L a b c d W' 0 (Nat.zero_le _) pv h1 h2
    rw [pl, pl2] at g
    exact g.mono fun e w' ⟨A, C, he, hd, hb⟩ => ⟨A, C, he, hd.rd, hb⟩
  obtain ⟨K, hK⟩ : ∃ K, K = srtS ((factorsL S M L).map keyD) := ⟨_, rfl⟩
  have hKl : K.length = (factorsL S M L).length := by rw [hK, srtS_len, List.length_map]
  have hKl2 : K.length = (factorsL (partS S o) (partM M o) L).length := by rw [hK, keys_same hv ho, srtS_len, List.length_map]
  have hfl := factors_len hv
  have hfl2 := factors_len pv
  have HKd : Hid (∀ A C W', Below w.heap.size w W' → RdD W' A (factorsL S M L) → Calls Tryz.prog 8 #[.slice A (factorsL S M L).length C] W' fun e w' => ∃ a c, e = .returned (.slice a K.length c) ∧ VAt w' a (strs K) ∧ Below W'.heap.size W' w') := Lib.hid fun A C W' h hr => (keys_any (factorsL S M L) A C W' (ht.later h) hr (by omega) (factors_small hv (by omega))).mono fun e w' ⟨a, c, he, hd, hb⟩ => ⟨a, c, by rw [hKl]; exact he, by rw [hK]; exact hd.at, hb⟩
  have HKx : Hid (∀ A C W', Below w.heap.size w W' → RdD W' A (factorsL (partS S o) (partM M o) L) → Calls Tryz.prog 8 #[.slice A (factorsL (partS S o) (partM M o) L).length C] W' fun e w' => ∃ a c, e = .returned (.slice a K.length c) ∧ VAt w' a (strs K) ∧ Below W'.heap.size W' w') := Lib.hid fun A C W' h hr => (keys_any (factorsL (partS S o) (partM M o) L) A C W' (ht.later h) hr (by omega) (factors_small pv (by omega))).mono fun e w' ⟨a, c, he, hd, hb⟩ => ⟨a, c, by rw [hKl2]; exact he, by rw [hK, keys_same hv ho]; exact hd.at, hb⟩
  have HEq : Hid (∀ (a b : Option Addr) (c d : Nat) W', VAt W' a (strs K) → VAt W' b (strs K) → Calls Tryz.prog 7 #[.slice a K.length c, .slice b K.length d] W' fun e w' => e = .returned (.bool true) ∧ Below W'.heap.size W' w') := Lib.hid fun a b c d W' h1 h2 => sEqS_yes K a b c d W' (by omega) h1 h2
  have H0 := Lib.hid ((HH.start w).alloc #[.slice aS S.length cS, .slice aM M.length cM, .int .i64 L] 24 rfl rfl)
  clear hg ht hS hM hO hl hv ho pv pl pl2 hol hs hK hKl hKl2 hfl hfl2
  generalize factorsL S M L = F at *
  generalize factorsL (partS S o) (partM M o) L = Fx at *
  generalize hn : S.length = n at *
  generalize hN : M.length = N at *
  generalize (nats o).length = l at *
  go_enter Tryz.func3, Tryz.ntmps3
  go_wp2_with fail
  refine (HA.out _).mono ?_
  rintro e w1 ⟨rfl, hb⟩
  have H1 := Lib.hid (H0.out.call hb)
  clear hb H0 
  have k00 := H1.out.cell (k := 0) (i := 0) rfl rfl
  have k01 := H1.out.cell (k := 0) (i := 1) rfl rfl
  have k02 := H1.out.cell (k := 0) (i := 2) rfl rfl
  go_wp2_with fail
  clear k00 k01 k02
  refine (HG.out _).mono ?_
  rintro e w2 ⟨rfl, hb⟩
  have H2 := Lib.hid (H1.out.call hb)
  clear hb H1 
  have k00 := H2.out.cell (k := 0) (i := 0) rfl rfl
  have k01 := H2.out.cell (k := 0) (i := 1) rfl rfl
  have k02 := H2.out.cell (k := 0) (i := 2) rfl rfl
  go_wp2_with fail
  clear k00 k01 k02
  refine (HR.out _ H2.out.below).mono ?_
  rintro e w3 ⟨a5, b5, c5, d5, rfl, ho1, ho2, hb⟩
  have H3' := Lib.hid (H2.out.call hb)
  have N5 := Lib.hid (And.intro ho1.ints ho2.ints)
  clear ho1 ho2 hb H2
  have H3 := Lib.hid (H3'.out.alloc #[.slice a5 n c5, .slice b5 N d5, .int .i64 L] 24 (b := w3.heap.size) rfl rfl)
  have M5 := Lib.hid (And.intro (N5.out.1.later ((Below.refl _ _).alloc (Nat.le_refl _) (.cells #[.slice a5 n c5, .slice b5 N d5, .int .i64 L] 24))) (N5.out.2.later ((Below.refl _ _).alloc (Nat.le_refl _) (.cells #[.slice a5 n c5, .slice b5 N d5, .int .i64 L] 24))))
  go_upto_region 6 with fail
  clear N5 H3'
  generalize w3.alloc (.cells #[.slice a5 n c5, .slice b5 N d5, .int .i64 L] 24) = v5 at *
  generalize w3.heap.size = q5 at *
  have HQ : Hid (∀ W', Below v5.heap.size v5 W' → W'.cell? ⟨w.heap.size, 0, none⟩ = some (.slice aS n cS) ∧ W'.cell? ⟨w.heap.size, 1, none⟩ = some (.slice aM N cM) ∧ W'.cell? ⟨w.heap.size, 2, none⟩ = some (.int .i64 L) ∧ W'.cell? ⟨q5, 0, none⟩ = some (.slice a5 n c5) ∧ W'.cell? ⟨q5, 1, none⟩ = some (.slice b5 N d5) ∧ W'.cell? ⟨q5, 2, none⟩ = some (.int .i64 L)) := Lib.hid fun W' h => by
    have h1 := H3.out.call h
    exact ⟨(h1.cell (k := 0) (i := 0) rfl rfl), (h1.cell (k := 0) (i := 1) rfl rfl), (h1.cell (k := 0) (i := 2) rfl rfl), (h1.cell (k := 1) (i := 0) rfl rfl), (h1.cell (k := 1) (i := 1) rfl rfl), (h1.cell (k := 1) (i := 2) rfl rfl)⟩
  have B0 : Hid (Below v5.heap.size v5 v5.drew) := Lib.hid (Below.refl _ _).drew
  have Q0 := Lib.hid (HQ.out _ B0.out)
  have HD : Hid (∀ W', Below v5.heap.size v5 W' → Below w.heap.size w W') := Lib.hid fun W' h => below_of H3.out.below h H3.out.below.size
  go_region_held3 (fun W' => W'.cell? ⟨w.heap.size, 0, none⟩ = some (.slice aS n cS) ∧ W'.cell? ⟨w.heap.size, 1, none⟩ = some (.slice aM N cM) ∧ W'.cell? ⟨w.heap.size, 2, none⟩ = some (.int .i64 L) ∧ W'.cell? ⟨q5, 0, none⟩ = some (.slice a5 n c5) ∧ W'.cell? ⟨q5, 1, none⟩ = some (.slice b5 N d5) ∧ W'.cell? ⟨q5, 2, none⟩ = some (.int .i64 L))
    (first
      | with_reducible exact Q0.out
      | with_reducible exact Q1.out
      | with_reducible exact Q2.out
      | with_reducible exact Q3.out
      | with_reducible exact Q4.out
      | with_reducible exact Q5.out)
    (first
      | ((with_reducible refine (HF.out _ (HD.out _ B0.out)).mono ?_); rintro e z1 ⟨A1, C1, rfl, hr, hb⟩; have B1 := Lib.hid (B0.out.trans (hb.mono B0.out.size)); have Q1 := Lib.hid (HQ.out _ B1.out); have R1 := Lib.hid hr; clear hb hr)
      | ((with_reducible refine (HKd.out A1 C1 _ (HD.out _ B1.out) R1.out).mono ?_); rintro e z2 ⟨A2, C2, rfl, hr, hb⟩; have B2 := Lib.hid (B1.out.trans (hb.mono B1.out.size)); have Q2 := Lib.hid (HQ.out _ B2.out); have R2 := Lib.hid hr; clear hb hr)
      | ((with_reducible refine (HFx.out a5 b5 c5 d5 _ (M5.out.1.later B2.out) (M5.out.2.later B2.out)).mono ?_); rintro e z3 ⟨A3, C3, rfl, hr, hb⟩; have B3 := Lib.hid (B2.out.trans (hb.mono B2.out.size)); have Q3 := Lib.hid (HQ.out _ B3.out); have S3 := Lib.hid (R2.out.later hb); have R3 := Lib.hid hr; clear hb hr)
      | ((with_reducible refine (HKx.out A3 C3 _ (HD.out _ B3.out) R3.out).mono ?_); rintro e z4 ⟨A4, C4, rfl, hr, hb⟩; have B4 := Lib.hid (B3.out.trans (hb.mono B3.out.size)); have Q4 := Lib.hid (HQ.out _ B4.out); have S4 := Lib.hid (S3.out.later hb); have R4 := Lib.hid hr; clear hb hr)
      | ((with_reducible refine (HEq.out A2 A4 C2 C4 _ S4.out R4.out).mono ?_); rintro e z5 ⟨rfl, hb⟩; have B5 := Lib.hid (B4.out.trans (hb.mono B4.out.size)); have Q5 := Lib.hid (HQ.out _ B5.out); clear hb))
  go_wp2_with fail
  go_ret
  exact ⟨rfl, HD.out _ B5.out⟩
theorem lunq_any (S M : List Int) (L : Int) (aS aM : Option Addr) (cS cM : Nat) (O : List Int) (aO : Option Addr) (cO : Nat) (w : World) (ht : Pow10 w) (_ : S.length ≤ maxLen) (_ : M.length ≤ maxLen) (_ : (Lit.int .i64 L).wf = true) (hS : IntsAt w aS S) (hM : IntsAt w aM M) (_ : O.length ≤ maxLen) (hO : IntsAt w aO O) :
    Calls Tryz.prog 3 #[.agg #[.slice aS S.length cS, .slice aM M.length cM, .int .i64 L], .slice aO O.length cO] w fun e w' => e = .returned (.bool true) ∧ Below w.heap.size w w' := by
  cases hg : greatB S M L
  · by_cases hl : O.length ≤ 20
    · cases hv : vldB S M L
      · exact lunq_bad S M L aS aM cS cM aO cO O w hg hl hv hS hM hO
      · by_cases ho : Ord O S.length
        · obtain ⟨o, rfl, hp⟩ := ho
          exact lunq_yes S M L aS aM cS cM aO cO o w ht hg hl hv hp hS hM hO
        · exact lunq_no S M L aS aM cS cM aO cO O w hg hl hv ho hS hM hO
    · exact lunq_long S M L aS aM cS cM aO cO O w hg (by omega)
  · exact lunq_great S M L aS aM cS cM aO cO O w hg
end Go.Proofs.YtmjoijfafachhaaGreatDoor

