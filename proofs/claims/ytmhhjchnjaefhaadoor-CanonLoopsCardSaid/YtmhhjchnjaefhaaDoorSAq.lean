/- The walk of the law CanonLoops. -/
import Derived.WalkKit
import Derived.WalkSpells
import Derived.WalkLawsBesides
import Derived.Deep.AppendSrc
import Derived.Deep.LoopGhost
import Derived.Deep.QuietTactic
import Derived.Deep.RegionWith
import Derived.Deep.DeepMust
import Derived.Deep.DeepFit
import Derived.BigQuiet
import Derived.Lib.Hide
import Derived.Outline
import Derived.Test.YtmhhjchnjaefhaaDoorProg
import Derived.Deep.Matrix
import Derived.Deep.DeepCutAuto
import Derived.Deep.RegionLaw
import Derived.Deep.RegionHeld3
import Derived.Lib.SliceRun
import Derived.Shelf.Strings.Builder1
import Derived.Shelf.Small.Wraps
import Derived.Shelf.Strings.BuilderF
import Derived.Shelf.Strings.BuilderK
import Derived.Shelf.Strconv.Itoa0
import Derived.Shelf.Strconv.Itoa1
import Derived.Shelf.LaysM
import Derived.Shelf.Strconv.Itoa2
import Derived.Shelf.Strconv.Itoa3
import Derived.Shelf.Slices.Equal
import Derived.Ground.Names2Prog
import Derived.Shelf.Slices.Clone
import Derived.Shelf.Slices.SearchI
import Derived.Shelf.Slices.Empties2
import Derived.Ground.SlgnProg
import Derived.Shelf.SlicesE.Clone
import Derived.Sort.OwnSortedInts
import Derived.Shelf.Small.Bits
import Derived.Shelf.Sort.Plain
import Derived.Shelf.Slices.Turned
import Derived.Shelf.Slices.CompactI
import Derived.Shelf.Slices.Cells
import Derived.Shelf.Slices.In.SortNone
import Derived.Lib.AppendZeros
import Derived.Deep.RegionHeld
import Derived.Lib.Builder
import Derived.Lib.AppendStr
import Derived.Lib.Walk
import Derived.Laws.Externs
import Derived.Lib.AppendIntMem
import Derived.Test.YtmhhjchnjaefhaaDoorSAa
import Derived.Test.YtmhhjchnjaefhaaDoorSAb
import Derived.Test.YtmhhjchnjaefhaaDoorSAc
import Derived.Test.YtmhhjchnjaefhaaDoorSAd
import Derived.Test.YtmhhjchnjaefhaaDoorSAe
import Derived.Test.YtmhhjchnjaefhaaDoorSAf
import Derived.Test.YtmhhjchnjaefhaaDoorSAg
import Derived.Test.YtmhhjchnjaefhaaDoorSAh
import Derived.Test.YtmhhjchnjaefhaaDoorSAi
import Derived.Test.YtmhhjchnjaefhaaDoorSAj
import Derived.Test.YtmhhjchnjaefhaaDoorSAk
import Derived.Test.YtmhhjchnjaefhaaDoorSAl
import Derived.Test.YtmhhjchnjaefhaaDoorSAm
import Derived.Test.YtmhhjchnjaefhaaDoorSAn
import Derived.Test.YtmhhjchnjaefhaaDoorSAo
import Derived.Test.YtmhhjchnjaefhaaDoorSAp
namespace Go.Proofs.YtmhhjchnjaefhaaDoor
open Go Go.RowKit
theorem sumI_take {l : List Int} {i : Nat} (h : i < l.length) : sumI (l.take (i + 1)) = sumI (l.take i) + nth l i := by
  have e : nth l i = l[i] := by unfold nth; simp [h]
  rw [List.take_add_one, List.getElem?_eq_getElem h, Option.toList_some, sumI_append, e]
  simp [sumI]
theorem sumI_bd {l : List Int} (h : ∀ x, x ∈ l → -1 ≤ x ∧ x ≤ 1) : - (l.length : Int) ≤ sumI l ∧ sumI l ≤ (l.length : Int) := by
  induction l with
  | nil => simp [sumI]
  | cons x l ih =>
    have h1 := h x List.mem_cons_self
    have h2 := ih fun y hy => h y (List.mem_cons_of_mem _ hy)
    rw [sumI, List.length_cons]
    omega
set_option maxRecDepth 100000 in
set_option maxHeartbeats 1000000 in
theorem sum_any (S M : List Int) (L : Int) (aS aM : Option Addr) (cS cM : Nat) (w : World) (h20 : S.length ≤ 20) (h1 : ∀ x, x ∈ S → -1 ≤ x ∧ x ≤ 1) (hS : IntsAt w aS S) :
    Calls Tryd.prog 33 #[.agg #[.slice aS S.length cS, .slice aM M.length cM, .int .i64 L]] w fun e w' => e = .returned (.int .i64 (sumI S)) ∧ Below w.heap.size w w' := by
  have HB : Hid (∀ i, i ≤ S.length → -20 ≤ sumI (S.take i) ∧ sumI (S.take i) ≤ 20) := Lib.hid fun i hi => by
    have := sumI_bd (l := S.take i) fun x hx => h1 x (List.mem_of_mem_take hx)
    rw [List.length_take] at this
    omega
  have HN : Hid (∀ i, i < S.length → -1 ≤ nth S i ∧ nth S i ≤ 1) := Lib.hid fun i hi => h1 _ (nth_mem S i hi)
  have HS := Lib.hid hS
  have H0 := Lib.hid ((HH.start w).alloc #[.slice aS S.length cS, .slice aM M.length cM, .int .i64 L] 24 rfl rfl)
  clear hS h1
  generalize M.length = N at *
  go_enter Tryd.func33, Tryd.ntmps33
  have k00 := H0.out.cell (k := 0) (i := 0) rfl rfl
  have k01 := H0.out.cell (k := 0) (i := 1) rfl rfl
  have k02 := H0.out.cell (k := 0) (i := 2) rfl rfl
  go_wp2_with fail
  clear k00 k01 k02
  go_loopg [9, 3] S.length (fun g v s3 wr => ∃ i : Nat, i ≤ S.length ∧ g = S.length - i ∧ v = .int .i64 i ∧ s3 = .int .i64 (sumI (S.take i)) ∧ Hid (Below w.heap.size w wr))
  case atStart => exact ⟨0, Nat.zero_le _, rfl, rfl, rfl, Lib.hid H0.out.below⟩
  case round =>
    obtain ⟨i, hi, rfl, rfl, rfl, Hb⟩ := hrel
    by_cases hil : i < S.length
    · obtain ⟨b, o, hab, _, hc⟩ := (HS.out.later Hb.out).open (by omega)
      subst hab
      have c1 := hc i hil
      have HT := Lib.hid (sumI_take hil)
      obtain ⟨x1, x2⟩ := HB.out i hi
      obtain ⟨x3, x4⟩ := HN.out i hil
      clear hc
      generalize nth S i = x at *
      generalize sumI (S.take i) = q at *
      have w1 : IntKind.i64.wrap (q + x) = q + x := wrapi_mid (by omega) (by omega)
      go_wp2_with fail
      go_roundg (S.length - (i + 1))
      case measure => omega
      case rel => exact ⟨i + 1, by omega, rfl, by go_num, by rw [HT.out], Hb⟩
    · obtain rfl : i = S.length := by omega
      have HE : Hid (sumI (S.take S.length) = sumI S) := Lib.hid (by rw [List.take_length])
      rw [HE.out]
      go_wp2_with fail
      go_ret
      exact ⟨rfl, Hb.out⟩
set_option maxRecDepth 100000 in
set_option maxHeartbeats 8000000 in
theorem lloo_1 (Sa Ma : List Int) (La : Int) (aSa aMa : Option Addr) (cSa cMa : Nat) (Sb Mb : List Int) (Lb : Int) (aSb aMb : Option Addr) (cSb cMb : Nat) (w : World) (ht : Pow10 w) (hga : greatB Sa Ma La = true) :
    Calls Tryd.prog 8 #[.agg #[.slice aSa Sa.length cSa, .slice aMa Ma.length cMa, .int .i64 La], .agg #[.slice aSb Sb.length cSb, .slice aMb Mb.length cMb, .int .i64 Lb]] w fun e w' => e = .returned (.bool true) ∧ Below w.heap.size w w' := by
  have HA : Hid (∀ W', Below w.heap.size w W' → Calls Tryd.prog 11 #[] W' fun e w' => e = .returned (.bool true) ∧ Below W'.heap.size W' w') := Lib.hid fun W' h => awake_any W' (ht.later h)
  have HGa : Hid (∀ W', Calls Tryd.prog 12 #[.agg #[.slice aSa Sa.length cSa, .slice aMa Ma.length cMa, .int .i64 La]] W' fun e w' => e = .returned (.bool true) ∧ Below W'.heap.size W' w') := Lib.hid fun W' => by
    have g := great_any Sa Ma La aSa aMa cSa cMa W'
    rw [hga] at g; exact g
  have H0 := Lib.hid (((HH.start w).alloc #[.slice aSa Sa.length cSa, .slice aMa Ma.length cMa, .int .i64 La] 24 rfl rfl).alloc #[.slice aSb Sb.length cSb, .slice aMb Mb.length cMb, .int .i64 Lb] 24 (b := w.heap.size + 1) (by simp) rfl)
  clear hga ht
  generalize Sa.length = na at *
  generalize Ma.length = Na at *
  generalize Sb.length = nb at *
  generalize Mb.length = Nb at *
  go_enter Tryd.func8, Tryd.ntmps8
  go_wp2_with fail
  refine (HA.out _ H0.out.below).mono ?_
  rintro e w1 ⟨rfl, hb⟩
  have H1 := Lib.hid (H0.out.call hb)
  clear hb H0 
  have k00 := H1.out.cell (k := 0) (i := 0) rfl rfl
  have k01 := H1.out.cell (k := 0) (i := 1) rfl rfl
  have k02 := H1.out.cell (k := 0) (i := 2) rfl rfl
  have k10 := H1.out.cell (k := 1) (i := 0) rfl rfl
  have k11 := H1.out.cell (k := 1) (i := 1) rfl rfl
  have k12 := H1.out.cell (k := 1) (i := 2) rfl rfl
  go_wp2_with fail
  clear k00 k01 k02 k10 k11 k12
  refine (HGa.out _).mono ?_
  rintro e w2 ⟨rfl, hb⟩
  have H2 := Lib.hid (H1.out.call hb)
  clear hb H1 
  have k00 := H2.out.cell (k := 0) (i := 0) rfl rfl
  have k01 := H2.out.cell (k := 0) (i := 1) rfl rfl
  have k02 := H2.out.cell (k := 0) (i := 2) rfl rfl
  have k10 := H2.out.cell (k := 1) (i := 0) rfl rfl
  have k11 := H2.out.cell (k := 1) (i := 1) rfl rfl
  have k12 := H2.out.cell (k := 1) (i := 2) rfl rfl
  go_wp2_with fail
  go_ret
  exact ⟨rfl, H2.out.below⟩
set_option maxRecDepth 100000 in
set_option maxHeartbeats 8000000 in
theorem lloo_2 (Sa Ma : List Int) (La : Int) (aSa aMa : Option Addr) (cSa cMa : Nat) (Sb Mb : List Int) (Lb : Int) (aSb aMb : Option Addr) (cSb cMb : Nat) (w : World) (ht : Pow10 w) (hga : greatB Sa Ma La = false) (hgb : greatB Sb Mb Lb = true) :
    Calls Tryd.prog 8 #[.agg #[.slice aSa Sa.length cSa, .slice aMa Ma.length cMa, .int .i64 La], .agg #[.slice aSb Sb.length cSb, .slice aMb Mb.length cMb, .int .i64 Lb]] w fun e w' => e = .returned (.bool true) ∧ Below w.heap.size w w' := by
  have HA : Hid (∀ W', Below w.heap.size w W' → Calls Tryd.prog 11 #[] W' fun e w' => e = .returned (.bool true) ∧ Below W'.heap.size W' w') := Lib.hid fun W' h => awake_any W' (ht.later h)
  have HGa : Hid (∀ W', Calls Tryd.prog 12 #[.agg #[.slice aSa Sa.length cSa, .slice aMa Ma.length cMa, .int .i64 La]] W' fun e w' => e = .returned (.bool false) ∧ Below W'.heap.size W' w') := Lib.hid fun W' => by
    have g := great_any Sa Ma La aSa aMa cSa cMa W'
    rw [hga] at g; exact g
  have HGb : Hid (∀ W', Calls Tryd.prog 12 #[.agg #[.slice aSb Sb.length cSb, .slice aMb Mb.length cMb, .int .i64 Lb]] W' fun e w' => e = .returned (.bool true) ∧ Below W'.heap.size W' w') := Lib.hid fun W' => by
    have g := great_any Sb Mb Lb aSb aMb cSb cMb W'
    rw [hgb] at g; exact g
  have H0 := Lib.hid (((HH.start w).alloc #[.slice aSa Sa.length cSa, .slice aMa Ma.length cMa, .int .i64 La] 24 rfl rfl).alloc #[.slice aSb Sb.length cSb, .slice aMb Mb.length cMb, .int .i64 Lb] 24 (b := w.heap.size + 1) (by simp) rfl)
  clear hga hgb ht
  generalize Sa.length = na at *
  generalize Ma.length = Na at *
  generalize Sb.length = nb at *
  generalize Mb.length = Nb at *
  go_enter Tryd.func8, Tryd.ntmps8
  go_wp2_with fail
  refine (HA.out _ H0.out.below).mono ?_
  rintro e w1 ⟨rfl, hb⟩
  have H1 := Lib.hid (H0.out.call hb)
  clear hb H0 
  have k00 := H1.out.cell (k := 0) (i := 0) rfl rfl
  have k01 := H1.out.cell (k := 0) (i := 1) rfl rfl
  have k02 := H1.out.cell (k := 0) (i := 2) rfl rfl
  have k10 := H1.out.cell (k := 1) (i := 0) rfl rfl
  have k11 := H1.out.cell (k := 1) (i := 1) rfl rfl
  have k12 := H1.out.cell (k := 1) (i := 2) rfl rfl
  go_wp2_with fail
  clear k00 k01 k02 k10 k11 k12
  refine (HGa.out _).mono ?_
  rintro e w2 ⟨rfl, hb⟩
  have H2 := Lib.hid (H1.out.call hb)
  clear hb H1 
  have k00 := H2.out.cell (k := 0) (i := 0) rfl rfl
  have k01 := H2.out.cell (k := 0) (i := 1) rfl rfl
  have k02 := H2.out.cell (k := 0) (i := 2) rfl rfl
  have k10 := H2.out.cell (k := 1) (i := 0) rfl rfl
  have k11 := H2.out.cell (k := 1) (i := 1) rfl rfl
  have k12 := H2.out.cell (k := 1) (i := 2) rfl rfl
  go_wp2_with fail
  clear k00 k01 k02 k10 k11 k12
  refine (HGb.out _).mono ?_
  rintro e w3 ⟨rfl, hb⟩
  have H3 := Lib.hid (H2.out.call hb)
  clear hb H2 
  have k00 := H3.out.cell (k := 0) (i := 0) rfl rfl
  have k01 := H3.out.cell (k := 0) (i := 1) rfl rfl
  have k02 := H3.out.cell (k := 0) (i := 2) rfl rfl
  have k10 := H3.out.cell (k := 1) (i := 0) rfl rfl
  have k11 := H3.out.cell (k := 1) (i := 1) rfl rfl
  have k12 := H3.out.cell (k := 1) (i := 2) rfl rfl
  go_wp2_with fail
  go_ret
  exact ⟨rfl, H3.out.below⟩
set_option maxRecDepth 100000 in
set_option maxHeartbeats 8000000 in
theorem lloo_3 (Sa Ma : List Int) (La : Int) (aSa aMa : Option Addr) (cSa cMa : Nat) (Sb Mb : List Int) (Lb : Int) (aSb aMb : Option Addr) (cSb cMb : Nat) (w : World) (ht : Pow10 w) (hga : greatB Sa Ma La = false) (hgb : greatB Sb Mb Lb = false) (hva : vldB Sa Ma La = false) (hSa : IntsAt w aSa Sa) (hMa : IntsAt w aMa Ma) :
    Calls Tryd.prog 8 #[.agg #[.slice aSa Sa.length cSa, .slice aMa Ma.length cMa, .int .i64 La], .agg #[.slice aSb Sb.length cSb, .slice aMb Mb.length cMb, .int .i64 Lb]] w fun e w' => e = .returned (.bool true) ∧ Below w.heap.size w w' := by
  have HA : Hid (∀ W', Below w.heap.size w W' → Calls Tryd.prog 11 #[] W' fun e w' => e = .returned (.bool true) ∧ Below W'.heap.size W' w') := Lib.hid fun W' h => awake_any W' (ht.later h)
  have HGa : Hid (∀ W', Calls Tryd.prog 12 #[.agg #[.slice aSa Sa.length cSa, .slice aMa Ma.length cMa, .int .i64 La]] W' fun e w' => e = .returned (.bool false) ∧ Below W'.heap.size W' w') := Lib.hid fun W' => by
    have g := great_any Sa Ma La aSa aMa cSa cMa W'
    rw [hga] at g; exact g
  have HGb : Hid (∀ W', Calls Tryd.prog 12 #[.agg #[.slice aSb Sb.length cSb, .slice aMb Mb.length cMb, .int .i64 Lb]] W' fun e w' => e = .returned (.bool false) ∧ Below W'.heap.size W' w') := Lib.hid fun W' => by
    have g := great_any Sb Mb Lb aSb aMb cSb cMb W'
    rw [hgb] at g; exact g
  obtain ⟨ga1, ga2⟩ := greatB_no hga
  obtain ⟨gb1, gb2⟩ := greatB_no hgb
  have HVa : Hid (∀ W', Below w.heap.size w W' → Calls Tryd.prog 18 #[.agg #[.slice aSa Sa.length cSa, .slice aMa Ma.length cMa, .int .i64 La]] W' fun e w' => e = .returned (.bool false) ∧ Below W'.heap.size W' w') := Lib.hid fun W' h => by
    have g := valid_all Sa Ma La aSa aMa cSa cMa W' (by omega) (hSa.later h) (hMa.later h)
    rw [hva] at g; exact g
  have H0 := Lib.hid (((HH.start w).alloc #[.slice aSa Sa.length cSa, .slice aMa Ma.length cMa, .int .i64 La] 24 rfl rfl).alloc #[.slice aSb Sb.length cSb, .slice aMb Mb.length cMb, .int .i64 Lb] 24 (b := w.heap.size + 1) (by simp) rfl)
  clear hga hgb ht hva hSa hMa
  generalize Sa.length = na at *
  generalize Ma.length = Na at *
  generalize Sb.length = nb at *
  generalize Mb.length = Nb at *
  go_enter Tryd.func8, Tryd.ntmps8
  go_wp2_with fail
  refine (HA.out _ H0.out.below).mono ?_
  rintro e w1 ⟨rfl, hb⟩
  have H1 := Lib.hid (H0.out.call hb)
  clear hb H0 
  have k00 := H1.out.cell (k := 0) (i := 0) rfl rfl
  have k01 := H1.out.cell (k := 0) (i := 1) rfl rfl
  have k02 := H1.out.cell (k := 0) (i := 2) rfl rfl
  have k10 := H1.out.cell (k := 1) (i := 0) rfl rfl
  have k11 := H1.out.cell (k := 1) (i := 1) rfl rfl
  have k12 := H1.out.cell (k := 1) (i := 2) rfl rfl
  go_wp2_with fail
  clear k00 k01 k02 k10 k11 k12
  refine (HGa.out _).mono ?_
  rintro e w2 ⟨rfl, hb⟩
  have H2 := Lib.hid (H1.out.call hb)
  clear hb H1 
  have k00 := H2.out.cell (k := 0) (i := 0) rfl rfl
  have k01 := H2.out.cell (k := 0) (i := 1) rfl rfl
  have k02 := H2.out.cell (k := 0) (i := 2) rfl rfl
  have k10 := H2.out.cell (k := 1) (i := 0) rfl rfl
  have k11 := H2.out.cell (k := 1) (i := 1) rfl rfl
  have k12 := H2.out.cell (k := 1) (i := 2) rfl rfl
  go_wp2_with fail
  clear k00 k01 k02 k10 k11 k12
  refine (HGb.out _).mono ?_
  rintro e w3 ⟨rfl, hb⟩
  have H3 := Lib.hid (H2.out.call hb)
  clear hb H2 
  have k00 := H3.out.cell (k := 0) (i := 0) rfl rfl
  have k01 := H3.out.cell (k := 0) (i := 1) rfl rfl
  have k02 := H3.out.cell (k := 0) (i := 2) rfl rfl
  have k10 := H3.out.cell (k := 1) (i := 0) rfl rfl
  have k11 := H3.out.cell (k := 1) (i := 1) rfl rfl
  have k12 := H3.out.cell (k := 1) (i := 2) rfl rfl
  go_wp2_with fail
  clear k00 k01 k02 k10 k11 k12
  refine (HVa.out _ H3.out.below).mono ?_
  rintro e w4 ⟨rfl, hb⟩
  have H4 := Lib.hid (H3.out.call hb)
  clear hb H3 
  have k00 := H4.out.cell (k := 0) (i := 0) rfl rfl
  have k01 := H4.out.cell (k := 0) (i := 1) rfl rfl
  have k02 := H4.out.cell (k := 0) (i := 2) rfl rfl
  have k10 := H4.out.cell (k := 1) (i := 0) rfl rfl
  have k11 := H4.out.cell (k := 1) (i := 1) rfl rfl
  have k12 := H4.out.cell (k := 1) (i := 2) rfl rfl
  go_wp2_with fail
  go_ret
  exact ⟨rfl, H4.out.below⟩
set_option maxRecDepth 100000 in
set_option maxHeartbeats 8000000 in
theorem lloo_4 (Sa Ma : List Int) (La : Int) (aSa aMa : Option Addr) (cSa cMa : Nat) (Sb Mb : List Int) (Lb : Int) (aSb aMb : Option Addr) (cSb cMb : Nat) (w : World) (ht : Pow10 w) (hga : greatB Sa Ma La = false) (hgb : greatB Sb Mb Lb = false) (hva : vldB Sa Ma La = true) (hvb : vldB Sb Mb Lb = false) (hSa : IntsAt w aSa Sa) (hMa : IntsAt w aMa Ma) (hSb : IntsAt w aSb Sb) (hMb : IntsAt w aMb Mb) :
    Calls Tryd.prog 8 #[.agg #[.slice aSa Sa.length cSa, .slice aMa Ma.length cMa, .int .i64 La], .agg #[.slice aSb Sb.length cSb, .slice aMb Mb.length cMb, .int .i64 Lb]] w fun e w' => e = .returned (.bool true) ∧ Below w.heap.size w w' := by
  have HA : Hid (∀ W', Below w.heap.size w W' → Calls Tryd.prog 11 #[] W' fun e w' => e = .returned (.bool true) ∧ Below W'.heap.size W' w') := Lib.hid fun W' h => awake_any W' (ht.later h)
  have HGa : Hid (∀ W', Calls Tryd.prog 12 #[.agg #[.slice aSa Sa.length cSa, .slice aMa Ma.length cMa, .int .i64 La]] W' fun e w' => e = .returned (.bool false) ∧ Below W'.heap.size W' w') := Lib.hid fun W' => by
    have g := great_any Sa Ma La aSa aMa cSa cMa W'
    rw [hga] at g; exact g
  have HGb : Hid (∀ W', Calls Tryd.prog 12 #[.agg #[.slice aSb Sb.length cSb, .slice aMb Mb.length cMb, .int .i64 Lb]] W' fun e w' => e = .returned (.bool false) ∧ Below W'.heap.size W' w') := Lib.hid fun W' => by
    have g := great_any Sb Mb Lb aSb aMb cSb cMb W'
    rw [hgb] at g; exact g
  obtain ⟨ga1, ga2⟩ := greatB_no hga
  obtain ⟨gb1, gb2⟩ := greatB_no hgb
  have HVa : Hid (∀ W', Below w.heap.size w W' → Calls Tryd.prog 18 #[.agg #[.slice aSa Sa.length cSa, .slice aMa Ma.length cMa, .int .i64 La]] W' fun e w' => e = .returned (.bool true) ∧ Below W'.heap.size W' w') := Lib.hid fun W' h => by
    have g := valid_all Sa Ma La aSa aMa cSa cMa W' (by omega) (hSa.later h) (hMa.later h)
    rw [hva] at g; exact g
  have HVb : Hid (∀ W', Below w.heap.size w W' → Calls Tryd.prog 18 #[.agg #[.slice aSb Sb.length cSb, .slice aMb Mb.length cMb, .int .i64 Lb]] W' fun e w' => e = .returned (.bool false) ∧ Below W'.heap.size W' w') := Lib.hid fun W' h => by
    have g := valid_all Sb Mb Lb aSb aMb cSb cMb W' (by omega) (hSb.later h) (hMb.later h)
    rw [hvb] at g; exact g
  have H0 := Lib.hid (((HH.start w).alloc #[.slice aSa Sa.length cSa, .slice aMa Ma.length cMa, .int .i64 La] 24 rfl rfl).alloc #[.slice aSb Sb.length cSb, .slice aMb Mb.length cMb, .int .i64 Lb] 24 (b := w.heap.size + 1) (by simp) rfl)
  clear hga hgb ht hva hvb hSa hMa hSb hMb
  generalize Sa.length = na at *
  generalize Ma.length = Na at *
  generalize Sb.length = nb at *
  generalize Mb.length = Nb at *
  go_enter Tryd.func8, Tryd.ntmps8
  go_wp2_with fail
  refine (HA.out _ H0.out.below).mono ?_
  rintro e w1 ⟨rfl, hb⟩
  have H1 := Lib.hid (H0.out.call hb)
  clear hb H0 
  have k00 := H1.out.cell (k := 0) (i := 0) rfl rfl
  have k01 := H1.out.cell (k := 0) (i := 1) rfl rfl
  have k02 := H1.out.cell (k := 0) (i := 2) rfl rfl
  have k10 := H1.out.cell (k := 1) (i := 0) rfl rfl
  have k11 := H1.out.cell (k := 1) (i := 1) rfl rfl
  have k12 := H1.out.cell (k := 1) (i := 2) rfl rfl
  go_wp2_with fail
  clear k00 k01 k02 k10 k11 k12
  refine (HGa.out _).mono ?_
  rintro e w2 ⟨rfl, hb⟩
  have H2 := Lib.hid (H1.out.call hb)
  clear hb H1 
  have k00 := H2.out.cell (k := 0) (i := 0) rfl rfl
  have k01 := H2.out.cell (k := 0) (i := 1) rfl rfl
  have k02 := H2.out.cell (k := 0) (i := 2) rfl rfl
  have k10 := H2.out.cell (k := 1) (i := 0) rfl rfl
  have k11 := H2.out.cell (k := 1) (i := 1) rfl rfl
  have k12 := H2.out.cell (k := 1) (i := 2) rfl rfl
  go_wp2_with fail
  clear k00 k01 k02 k10 k11 k12
  refine (HGb.out _).mono ?_
  rintro e w3 ⟨rfl, hb⟩
  have H3 := Lib.hid (H2.out.call hb)
  clear hb H2 
  have k00 := H3.out.cell (k := 0) (i := 0) rfl rfl
  have k01 := H3.out.cell (k := 0) (i := 1) rfl rfl
  have k02 := H3.out.cell (k := 0) (i := 2) rfl rfl
  have k10 := H3.out.cell (k := 1) (i := 0) rfl rfl
  have k11 := H3.out.cell (k := 1) (i := 1) rfl rfl
  have k12 := H3.out.cell (k := 1) (i := 2) rfl rfl
  go_wp2_with fail
  clear k00 k01 k02 k10 k11 k12
  refine (HVa.out _ H3.out.below).mono ?_
  rintro e w4 ⟨rfl, hb⟩
  have H4 := Lib.hid (H3.out.call hb)
  clear hb H3 
  have k00 := H4.out.cell (k := 0) (i := 0) rfl rfl
  have k01 := H4.out.cell (k := 0) (i := 1) rfl rfl
  have k02 := H4.out.cell (k := 0) (i := 2) rfl rfl
  have k10 := H4.out.cell (k := 1) (i := 0) rfl rfl
  have k11 := H4.out.cell (k := 1) (i := 1) rfl rfl
  have k12 := H4.out.cell (k := 1) (i := 2) rfl rfl
  go_wp2_with fail
  clear k00 k01 k02 k10 k11 k12
  refine (HVb.out _ H4.out.below).mono ?_
  rintro e w5 ⟨rfl, hb⟩
  have H5 := Lib.hid (H4.out.call hb)
  clear hb H4 
  have k00 := H5.out.cell (k := 0) (i := 0) rfl rfl
  have k01 := H5.out.cell (k := 0) (i := 1) rfl rfl
  have k02 := H5.out.cell (k := 0) (i := 2) rfl rfl
  have k10 := H5.out.cell (k := 1) (i := 0) rfl rfl
  have k11 := H5.out.cell (k := 1) (i := 1) rfl rfl
  have k12 := H5.out.cell (k := 1) (i := 2) rfl rfl
  go_wp2_with fail
  go_ret
  exact ⟨rfl, H5.out.below⟩
set_option maxRecDepth 100000 in
set_option maxHeartbeats 8000000 in
theorem lloo_5 (Sa Ma : List Int) (La : Int) (aSa aMa : Option Addr) (cSa cMa : Nat) (Sb Mb : List Int) (Lb : Int) (aSb aMb : Option Addr) (cSb cMb : Nat) (w : World) (ht : Pow10 w) (hga : greatB Sa Ma La = false) (hgb : greatB Sb Mb Lb = false) (hva : vldB Sa Ma La = true) (hvb : vldB Sb Mb Lb = true) (hL : La < 64) (hC : codeOf Sa Ma La = codeOf Sb Mb Lb) (hSa : IntsAt w aSa Sa) (hMa : IntsAt w aMa Ma) (hSb : IntsAt w aSb Sb) (hMb : IntsAt w aMb Mb) :
    Calls Tryd.prog 8 #[.agg #[.slice aSa Sa.length cSa, .slice aMa Ma.length cMa, .int .i64 La], .agg #[.slice aSb Sb.length cSb, .slice aMb Mb.length cMb, .int .i64 Lb]] w fun e w' => e = .returned (.bool true) ∧ Below w.heap.size w w' := by
  have HA : Hid (∀ W', Below w.heap.size w W' → Calls Tryd.prog 11 #[] W' fun e w' => e = .returned (.bool true) ∧ Below W'.heap.size W' w') := Lib.hid fun W' h => awake_any W' (ht.later h)
  have HGa : Hid (∀ W', Calls Tryd.prog 12 #[.agg #[.slice aSa Sa.length cSa, .slice aMa Ma.length cMa, .int .i64 La]] W' fun e w' => e = .returned (.bool false) ∧ Below W'.heap.size W' w') := Lib.hid fun W' => by
    have g := great_any Sa Ma La aSa aMa cSa cMa W'
    rw [hga] at g; exact g
  have HGb : Hid (∀ W', Calls Tryd.prog 12 #[.agg #[.slice aSb Sb.length cSb, .slice aMb Mb.length cMb, .int .i64 Lb]] W' fun e w' => e = .returned (.bool false) ∧ Below W'.heap.size W' w') := Lib.hid fun W' => by
    have g := great_any Sb Mb Lb aSb aMb cSb cMb W'
    rw [hgb] at g; exact g
  obtain ⟨ga1, ga2⟩ := greatB_no hga
  obtain ⟨gb1, gb2⟩ := greatB_no hgb
  have HVa : Hid (∀ W', Below w.heap.size w W' → Calls Tryd.prog 18 #[.agg #[.slice aSa Sa.length cSa, .slice aMa Ma.length cMa, .int .i64 La]] W' fun e w' => e = .returned (.bool true) ∧ Below W'.heap.size W' w') := Lib.hid fun W' h => by
    have g := valid_all Sa Ma La aSa aMa cSa cMa W' (by omega) (hSa.later h) (hMa.later h)
    rw [hva] at g; exact g
  have HVb : Hid (∀ W', Below w.heap.size w W' → Calls Tryd.prog 18 #[.agg #[.slice aSb Sb.length cSb, .slice aMb Mb.length cMb, .int .i64 Lb]] W' fun e w' => e = .returned (.bool true) ∧ Below W'.heap.size W' w') := Lib.hid fun W' h => by
    have g := valid_all Sb Mb Lb aSb aMb cSb cMb W' (by omega) (hSb.later h) (hMb.later h)
    rw [hvb] at g; exact g
  have hsa := vldB_shape hva
  have hsb := vldB_shape hvb
  have hla1 := hsa.lo
  have hla2 := hsa.hi
  have w1 : IntKind.i64.wrap (La + 1) = La + 1 := wrapi_mid (by omega) (by omega)
  have HCl : Hid (∀ W', Below w.heap.size w W' → Calls Tryd.prog 32 #[.agg #[.slice aSa Sa.length cSa, .slice aMa Ma.length cMa, .int .i64 La]] W' fun e w' => ∃ a b c d, e = .returned (.agg #[.slice a Sa.length c, .slice b Ma.length d, .int .i64 La]) ∧ Own w' W'.heap.size 3 a c (ints Sa) ∧ Own w' W'.heap.size 3 b d (ints Ma) ∧ (∀ p q, a = some p → b = some q → p.block ≠ q.block) ∧ Below W'.heap.size W' w') := Lib.hid fun W' h => dclone_all Sa Ma La aSa aMa cSa cMa W' (by omega) (by omega) (hSa.later h) (hMa.later h)
  have hvm : vldB Sa Ma (La + 1) = true := by
    obtain ⟨h1, h2⟩ := vldB_iff.1 hva
    exact vldB_iff.2 ⟨⟨h1.few, h1.len, by omega, by omega, h1.sign, h1.mate⟩, h2⟩
  have hcm : codeOf Sa Ma La ≠ codeOf Sa Ma (La + 1) := fun h => by have := (code_inj h).1; omega
  have HS1 : Hid (∀ (a b : Option Addr) (c d : Nat) W', Below w.heap.size w W' → IntsAt W' a Sa → IntsAt W' b Ma → Calls Tryd.prog 14 #[.agg #[.slice aSa Sa.length cSa, .slice aMa Ma.length cMa, .int .i64 La], .agg #[.slice a Sa.length c, .slice b Ma.length d, .int .i64 (La + 1)]] W' fun e w' => e = .returned (.bool false) ∧ Below W'.heap.size W' w') := Lib.hid fun a b c d W' h h1 h2 => by
    have g := csame_any Sa Ma La aSa aMa cSa cMa Sa Ma (La + 1) a b c d W' (by omega) (by omega) (by omega) (by omega) ga1 ga1 (hSa.later h) (hMa.later h) h1 h2
    have e : cSame Sa Ma La Sa Ma (La + 1) = false := by unfold cSame; rw [hva, hvm, decide_eq_false hcm]; rfl
    rw [e] at g; exact g
  have HK1 : Hid (∀ W', Below w.heap.size w W' → Calls Tryd.prog 24 #[.agg #[.slice aSa Sa.length cSa, .slice aMa Ma.length cMa, .int .i64 La]] W' fun e w' => e = .returned (.string ⟨(keyOf (codeOf Sa Ma La)).toArray⟩) ∧ Below W'.heap.size W' w') := Lib.hid fun W' h => by
    have g := key_any Sa Ma La aSa aMa cSa cMa W' ga1 (by omega) (ht.later h) (hSa.later h) (hMa.later h)
    rw [cdV_yes hva] at g; exact g
  have HK2 : Hid (∀ (a b : Option Addr) (c d : Nat) W', Below w.heap.size w W' → IntsAt W' a Sa → IntsAt W' b Ma → Calls Tryd.prog 24 #[.agg #[.slice a Sa.length c, .slice b Ma.length d, .int .i64 (La + 1)]] W' fun e w' => e = .returned (.string ⟨(keyOf (codeOf Sa Ma (La + 1))).toArray⟩) ∧ Below W'.heap.size W' w') := Lib.hid fun a b c d W' h h1 h2 => by
    have g := key_any Sa Ma (La + 1) a b c d W' ga1 (by omega) (ht.later h) h1 h2
    rw [cdV_yes hvm] at g; exact g
  have hkn : (keyOf (codeOf Sa Ma La)).toArray ≠ (keyOf (codeOf Sa Ma (La + 1))).toArray := fun h => hcm (keyOf_inj (codeOf_sml hva ga1) (codeOf_sml hvm ga1) (codeOf_ne _ _ _) (codeOf_ne _ _ _) (List.toArray_inj h))
  have tL : decide (La < 64) = true := decide_eq_true hL
  have HSb : Hid (∀ W', Below w.heap.size w W' → Calls Tryd.prog 14 #[.agg #[.slice aSa Sa.length cSa, .slice aMa Ma.length cMa, .int .i64 La], .agg #[.slice aSb Sb.length cSb, .slice aMb Mb.length cMb, .int .i64 Lb]] W' fun e w' => e = .returned (.bool true) ∧ Below W'.heap.size W' w') := Lib.hid fun W' h => by
    have g := csame_any Sa Ma La aSa aMa cSa cMa Sb Mb Lb aSb aMb cSb cMb W' (by omega) (by omega) (by omega) (by omega) ga1 gb1 (hSa.later h) (hMa.later h) (hSb.later h) (hMb.later h)
    have e : cSame Sa Ma La Sb Mb Lb = true := by unfold cSame; rw [hva, hvb, decide_eq_true hC]; rfl
    rw [e] at g; exact g
  obtain ⟨p1, p2, p3, p4, _⟩ := same_code hva hvb hC
  have hsg : ∀ (S M : List Int) (L : Int), Shape S M L → ∀ x, x ∈ S → -1 ≤ x ∧ x ≤ 1 := fun S M L hs x hx => by
    obtain ⟨i, hi, rfl⟩ := mem_nth hx
    rcases hs.sign i hi with e | e <;> rw [e] <;> decide
  have HU1 : Hid (∀ W', Below w.heap.size w W' → Calls Tryd.prog 33 #[.agg #[.slice aSa Sa.length cSa, .slice aMa Ma.length cMa, .int .i64 La]] W' fun e w' => e = .returned (.int .i64 (sumI Sa)) ∧ Below W'.heap.size W' w') := Lib.hid fun W' h => sum_any Sa Ma La aSa aMa cSa cMa W' ga1 (hsg _ _ _ hsa) (hSa.later h)
  have HU2 : Hid (∀ W', Below w.heap.size w W' → Calls Tryd.prog 33 #[.agg #[.slice aSb Sb.length cSb, .slice aMb Mb.length cMb, .int .i64 Lb]] W' fun e w' => e = .returned (.int .i64 (sumI Sa)) ∧ Below W'.heap.size W' w') := Lib.hid fun W' h => by
    rw [p3]; exact sum_any Sb Mb Lb aSb aMb cSb cMb W' gb1 (hsg _ _ _ hsb) (hSb.later h)
  have HF1 : Hid (∀ W', Below w.heap.size w W' → Calls Tryd.prog 34 #[.agg #[.slice aSa Sa.length cSa, .slice aMa Ma.length cMa, .int .i64 La]] W' fun e w' => ∃ A C, e = .returned (.slice A (facesL Ma Sa.length).length C) ∧ Below W'.heap.size W' w') := Lib.hid fun W' h => (faces_own Sa Ma La aSa aMa cSa cMa W' hva (hSa.later h) (hMa.later h)).mono fun e w' ⟨A, C, he, hb, _⟩ => ⟨A, C, he, hb⟩
  have HF2 : Hid (∀ W', Below w.heap.size w W' → Calls Tryd.prog 34 #[.agg #[.slice aSb Sb.length cSb, .slice aMb Mb.length cMb, .int .i64 Lb]] W' fun e w' => ∃ A C, e = .returned (.slice A (facesL Ma Sa.length).length C) ∧ Below W'.heap.size W' w') := Lib.hid fun W' h => (faces_own Sb Mb Lb aSb aMb cSb cMb W' hvb (hSb.later h) (hMb.later h)).mono fun e w' ⟨A, C, he, hb, _⟩ => ⟨A, C, by rw [p4]; exact he, hb⟩
  have tLL : (La == Lb) = true := by rw [p1]; exact beq_self_eq_true _
  have tnn : ((Sa.length : Int) == (Sb.length : Int)) = true := by rw [p2]; exact beq_self_eq_true _
  have tnn2 : (Sa.length == Sb.length) = true := by rw [p2]; exact beq_self_eq_true _
  have H0 := Lib.hid (((HH.start w).alloc #[.slice aSa Sa.length cSa, .slice aMa Ma.length cMa, .int .i64 La] 24 rfl rfl).alloc #[.slice aSb Sb.length cSb, .slice aMb Mb.length cMb, .int .i64 Lb] 24 (b := w.heap.size + 1) (by simp) rfl)
  clear ht hva hvb hga hgb hC hL hsa hsb hvm hcm p1 p2 p3 p4 hsg
  generalize (facesL Ma Sa.length).length = nf at *
  generalize sumI Sa = sm at *
  generalize (keyOf (codeOf Sa Ma La)).toArray = K1 at *
  generalize (keyOf (codeOf Sa Ma (La + 1))).toArray = K2 at *
  have eK : ((⟨K1⟩ : ByteArray).toList == (⟨K2⟩ : ByteArray).toList) = false := by
    rw [beq_eq_false_iff_ne, ByteArray.toList_eq, ByteArray.toList_eq]; exact fun h => hkn (Array.toList_inj.1 h)
  clear hkn
  have HSS := Lib.hid hSa
  have HMM := Lib.hid hMa
  clear hSa hMa hSb hMb
  generalize Sa.length = na at *
  generalize Ma.length = Na at *
  generalize Sb.length = nb at *
  generalize Mb.length = Nb at *
  go_enter Tryd.func8, Tryd.ntmps8
  go_wp2_with fail
  refine (HA.out _ H0.out.below).mono ?_
  rintro e w1 ⟨rfl, hb⟩
  have H1 := Lib.hid (H0.out.call hb)
  clear hb H0 
  have k00 := H1.out.cell (k := 0) (i := 0) rfl rfl
  have k01 := H1.out.cell (k := 0) (i := 1) rfl rfl
  have k02 := H1.out.cell (k := 0) (i := 2) rfl rfl
  have k10 := H1.out.cell (k := 1) (i := 0) rfl rfl
  have k11 := H1.out.cell (k := 1) (i := 1) rfl rfl
  have k12 := H1.out.cell (k := 1) (i := 2) rfl rfl
  go_wp2_with fail
  clear k00 k01 k02 k10 k11 k12
  refine (HGa.out _).mono ?_
  rintro e w2 ⟨rfl, hb⟩
  have H2 := Lib.hid (H1.out.call hb)
  clear hb H1 
  have k00 := H2.out.cell (k := 0) (i := 0) rfl rfl
  have k01 := H2.out.cell (k := 0) (i := 1) rfl rfl
  have k02 := H2.out.cell (k := 0) (i := 2) rfl rfl
  have k10 := H2.out.cell (k := 1) (i := 0) rfl rfl
  have k11 := H2.out.cell (k := 1) (i := 1) rfl rfl
  have k12 := H2.out.cell (k := 1) (i := 2) rfl rfl
  go_wp2_with fail
  clear k00 k01 k02 k10 k11 k12
  refine (HGb.out _).mono ?_
  rintro e w3 ⟨rfl, hb⟩
  have H3 := Lib.hid (H2.out.call hb)
  clear hb H2 
  have k00 := H3.out.cell (k := 0) (i := 0) rfl rfl
  have k01 := H3.out.cell (k := 0) (i := 1) rfl rfl
  have k02 := H3.out.cell (k := 0) (i := 2) rfl rfl
  have k10 := H3.out.cell (k := 1) (i := 0) rfl rfl
  have k11 := H3.out.cell (k := 1) (i := 1) rfl rfl
  have k12 := H3.out.cell (k := 1) (i := 2) rfl rfl
  go_wp2_with fail
  clear k00 k01 k02 k10 k11 k12
  refine (HVa.out _ H3.out.below).mono ?_
  rintro e w4 ⟨rfl, hb⟩
  have H4 := Lib.hid (H3.out.call hb)
  clear hb H3 
  have k00 := H4.out.cell (k := 0) (i := 0) rfl rfl
  have k01 := H4.out.cell (k := 0) (i := 1) rfl rfl
  have k02 := H4.out.cell (k := 0) (i := 2) rfl rfl
  have k10 := H4.out.cell (k := 1) (i := 0) rfl rfl
  have k11 := H4.out.cell (k := 1) (i := 1) rfl rfl
  have k12 := H4.out.cell (k := 1) (i := 2) rfl rfl
  go_wp2_with fail
  clear k00 k01 k02 k10 k11 k12
  refine (HVb.out _ H4.out.below).mono ?_
  rintro e w5 ⟨rfl, hb⟩
  have H5 := Lib.hid (H4.out.call hb)
  clear hb H4 
  have k00 := H5.out.cell (k := 0) (i := 0) rfl rfl
  have k01 := H5.out.cell (k := 0) (i := 1) rfl rfl
  have k02 := H5.out.cell (k := 0) (i := 2) rfl rfl
  have k10 := H5.out.cell (k := 1) (i := 0) rfl rfl
  have k11 := H5.out.cell (k := 1) (i := 1) rfl rfl
  have k12 := H5.out.cell (k := 1) (i := 2) rfl rfl
  go_wp2_with fail
  clear k00 k01 k02 k10 k11 k12
  refine (HCl.out _ H5.out.below).mono ?_
  rintro e w6 ⟨a5, b5, c5, d5, rfl, ho1, ho2, hne, hb⟩
  have H6a := Lib.hid (H5.out.addSl2 hb ho1 ho2 hne)
  clear ho1 ho2 hne hb H5 HCl
  have H6 := Lib.hid (H6a.out.alloc #[.slice a5 na c5, .slice b5 Na d5, .int .i64 La] 24 (b := w6.heap.size) rfl rfl)
  go_upto_region 6 with fail
  clear H6a
  generalize w6.alloc (.cells #[.slice a5 na c5, .slice b5 Na d5, .int .i64 La] 24) = v6 at *
  generalize w6.heap.size = q5 at *
  have y2 := H6.out.cell (k := 2) (i := 2) rfl rfl
  have f2 := H6.out.frozen (k := 2) rfl 2
  go_upto_region 7 with fail
  have H7 := Lib.hid (H6.out.set (k := 2) rfl 2 (.int .i64 (La + 1)))
  clear y2 f2 H6
  generalize v6.setCell ⟨q5, 2, none⟩ (.int .i64 (La + 1)) = v7 at *
  go_upto_region 8 with fail
  have HQ : Hid (∀ W', Below v7.heap.size v7 W' → W'.cell? ⟨w.heap.size, 0, none⟩ = some (.slice aSa na cSa) ∧ W'.cell? ⟨w.heap.size, 1, none⟩ = some (.slice aMa Na cMa) ∧ W'.cell? ⟨w.heap.size, 2, none⟩ = some (.int .i64 La) ∧ W'.cell? ⟨w.heap.size + 1, 0, none⟩ = some (.slice aSb nb cSb) ∧ W'.cell? ⟨w.heap.size + 1, 1, none⟩ = some (.slice aMb Nb cMb) ∧ W'.cell? ⟨w.heap.size + 1, 2, none⟩ = some (.int .i64 Lb) ∧ W'.cell? ⟨q5, 0, none⟩ = some (.slice a5 na c5) ∧ W'.cell? ⟨q5, 1, none⟩ = some (.slice b5 Na d5) ∧ W'.cell? ⟨q5, 2, none⟩ = some (.int .i64 (La + 1))) := Lib.hid fun W' h => by
    have h1 := H7.out.call h
    exact ⟨(h1.cell (k := 0) (i := 0) rfl rfl), (h1.cell (k := 0) (i := 1) rfl rfl), (h1.cell (k := 0) (i := 2) rfl rfl), (h1.cell (k := 1) (i := 0) rfl rfl), (h1.cell (k := 1) (i := 1) rfl rfl), (h1.cell (k := 1) (i := 2) rfl rfl), (h1.cell (k := 2) (i := 0) rfl rfl), (h1.cell (k := 2) (i := 1) rfl rfl), (h1.cell (k := 2) (i := 2) rfl rfl)⟩
  have HD : Hid (∀ W', Below v7.heap.size v7 W' → Below w.heap.size w W') := Lib.hid fun W' h => below_of H7.out.below h H7.out.below.size
  have O7 := Lib.hid (And.intro (H7.out.sl (k := 0) rfl).ints (H7.out.sl (k := 1) rfl).ints)
  have B0 : Hid (Below v7.heap.size v7 v7.drew) := Lib.hid (Below.refl _ _).drew
  have Q0 := Lib.hid (HQ.out _ B0.out)
  go_region_held3 (fun W' => W'.cell? ⟨w.heap.size, 0, none⟩ = some (.slice aSa na cSa) ∧ W'.cell? ⟨w.heap.size, 1, none⟩ = some (.slice aMa Na cMa) ∧ W'.cell? ⟨w.heap.size, 2, none⟩ = some (.int .i64 La) ∧ W'.cell? ⟨w.heap.size + 1, 0, none⟩ = some (.slice aSb nb cSb) ∧ W'.cell? ⟨w.heap.size + 1, 1, none⟩ = some (.slice aMb Nb cMb) ∧ W'.cell? ⟨w.heap.size + 1, 2, none⟩ = some (.int .i64 Lb) ∧ W'.cell? ⟨q5, 0, none⟩ = some (.slice a5 na c5) ∧ W'.cell? ⟨q5, 1, none⟩ = some (.slice b5 Na d5) ∧ W'.cell? ⟨q5, 2, none⟩ = some (.int .i64 (La + 1)))
    (first
      | with_reducible exact Q0.out
      | with_reducible exact Q1.out
      | with_reducible exact Q2.out
      | with_reducible exact Q3.out)
    (first
      | ((with_reducible refine (HS1.out a5 b5 c5 d5 _ (HD.out _ B0.out) (O7.out.1.later B0.out) (O7.out.2.later B0.out)).mono ?_); rintro e z1 ⟨rfl, hb⟩; have B1 := Lib.hid (B0.out.trans (hb.mono B0.out.size)); have Q1 := Lib.hid (HQ.out _ B1.out); clear hb)
      | ((with_reducible refine (HK1.out _ (HD.out _ B1.out)).mono ?_); rintro e z2 ⟨rfl, hb⟩; have B2 := Lib.hid (B1.out.trans (hb.mono B1.out.size)); have Q2 := Lib.hid (HQ.out _ B2.out); clear hb)
      | ((with_reducible refine (HK2.out a5 b5 c5 d5 _ (HD.out _ B2.out) (O7.out.1.later B2.out) (O7.out.2.later B2.out)).mono ?_); rintro e z3 ⟨rfl, hb⟩; have B3 := Lib.hid (B2.out.trans (hb.mono B2.out.size)); have Q3 := Lib.hid (HQ.out _ B3.out); clear hb))
  go_upto_region 10 with fail
  have C0 : Hid (Below v7.heap.size v7 z3.drew) := Lib.hid B3.out.drew
  clear B0 B1 B2 B3 Q0 Q1 Q2 Q3
  have B0 := C0
  clear C0
  have Q0 := Lib.hid (HQ.out _ B0.out)
  go_region_held3 (fun W' => W'.cell? ⟨w.heap.size, 0, none⟩ = some (.slice aSa na cSa) ∧ W'.cell? ⟨w.heap.size, 1, none⟩ = some (.slice aMa Na cMa) ∧ W'.cell? ⟨w.heap.size, 2, none⟩ = some (.int .i64 La) ∧ W'.cell? ⟨w.heap.size + 1, 0, none⟩ = some (.slice aSb nb cSb) ∧ W'.cell? ⟨w.heap.size + 1, 1, none⟩ = some (.slice aMb Nb cMb) ∧ W'.cell? ⟨w.heap.size + 1, 2, none⟩ = some (.int .i64 Lb) ∧ W'.cell? ⟨q5, 0, none⟩ = some (.slice a5 na c5) ∧ W'.cell? ⟨q5, 1, none⟩ = some (.slice b5 Na d5) ∧ W'.cell? ⟨q5, 2, none⟩ = some (.int .i64 (La + 1)))
    (first
      | with_reducible exact Q0.out
      | with_reducible exact Q1.out
      | with_reducible exact Q2.out
      | with_reducible exact Q3.out
      | with_reducible exact Q4.out
      | with_reducible exact Q5.out)
    (first
      | ((with_reducible refine (HSb.out _ (HD.out _ B0.out)).mono ?_); rintro e z1 ⟨rfl, hb⟩; have B1 := Lib.hid (B0.out.trans (hb.mono B0.out.size)); have Q1 := Lib.hid (HQ.out _ B1.out); clear hb)
      | ((with_reducible refine (HU1.out _ (HD.out _ B1.out)).mono ?_); rintro e z2 ⟨rfl, hb⟩; have B2 := Lib.hid (B1.out.trans (hb.mono B1.out.size)); have Q2 := Lib.hid (HQ.out _ B2.out); clear hb)
      | ((with_reducible refine (HU2.out _ (HD.out _ B2.out)).mono ?_); rintro e z3 ⟨rfl, hb⟩; have B3 := Lib.hid (B2.out.trans (hb.mono B2.out.size)); have Q3 := Lib.hid (HQ.out _ B3.out); clear hb)
      | ((with_reducible refine (HF1.out _ (HD.out _ B3.out)).mono ?_); rintro e z4 ⟨A4, C4, rfl, hb⟩; have B4 := Lib.hid (B3.out.trans (hb.mono B3.out.size)); have Q4 := Lib.hid (HQ.out _ B4.out); clear hb)
      | ((with_reducible refine (HF2.out _ (HD.out _ B4.out)).mono ?_); rintro e z5 ⟨A5, C5, rfl, hb⟩; have B5 := Lib.hid (B4.out.trans (hb.mono B4.out.size)); have Q5 := Lib.hid (HQ.out _ B5.out); clear hb))
  go_wp2_with fail
  go_ret
  exact ⟨rfl, HD.out _ B5.out⟩
set_option maxRecDepth 100000 in
set_option maxHeartbeats 8000000 in
theorem lloo_6 (Sa Ma : List Int) (La : Int) (aSa aMa : Option Addr) (cSa cMa : Nat) (Sb Mb : List Int) (Lb : Int) (aSb aMb : Option Addr) (cSb cMb : Nat) (w : World) (ht : Pow10 w) (hga : greatB Sa Ma La = false) (hgb : greatB Sb Mb Lb = false) (hva : vldB Sa Ma La = true) (hvb : vldB Sb Mb Lb = true) (hL : La < 64) (hC : codeOf Sa Ma La ≠ codeOf Sb Mb Lb) (hSa : IntsAt w aSa Sa) (hMa : IntsAt w aMa Ma) (hSb : IntsAt w aSb Sb) (hMb : IntsAt w aMb Mb) :
    Calls Tryd.prog 8 #[.agg #[.slice aSa Sa.length cSa, .slice aMa Ma.length cMa, .int .i64 La], .agg #[.slice aSb Sb.length cSb, .slice aMb Mb.length cMb, .int .i64 Lb]] w fun e w' => e = .returned (.bool true) ∧ Below w.heap.size w w' := by
  have HA : Hid (∀ W', Below w.heap.size w W' → Calls Tryd.prog 11 #[] W' fun e w' => e = .returned (.bool true) ∧ Below W'.heap.size W' w') := Lib.hid fun W' h => awake_any W' (ht.later h)
  have HGa : Hid (∀ W', Calls Tryd.prog 12 #[.agg #[.slice aSa Sa.length cSa, .slice aMa Ma.length cMa, .int .i64 La]] W' fun e w' => e = .returned (.bool false) ∧ Below W'.heap.size W' w') := Lib.hid fun W' => by
    have g := great_any Sa Ma La aSa aMa cSa cMa W'
    rw [hga] at g; exact g
  have HGb : Hid (∀ W', Calls Tryd.prog 12 #[.agg #[.slice aSb Sb.length cSb, .slice aMb Mb.length cMb, .int .i64 Lb]] W' fun e w' => e = .returned (.bool false) ∧ Below W'.heap.size W' w') := Lib.hid fun W' => by
    have g := great_any Sb Mb Lb aSb aMb cSb cMb W'
    rw [hgb] at g; exact g
  obtain ⟨ga1, ga2⟩ := greatB_no hga
  obtain ⟨gb1, gb2⟩ := greatB_no hgb
  have HVa : Hid (∀ W', Below w.heap.size w W' → Calls Tryd.prog 18 #[.agg #[.slice aSa Sa.length cSa, .slice aMa Ma.length cMa, .int .i64 La]] W' fun e w' => e = .returned (.bool true) ∧ Below W'.heap.size W' w') := Lib.hid fun W' h => by
    have g := valid_all Sa Ma La aSa aMa cSa cMa W' (by omega) (hSa.later h) (hMa.later h)
    rw [hva] at g; exact g
  have HVb : Hid (∀ W', Below w.heap.size w W' → Calls Tryd.prog 18 #[.agg #[.slice aSb Sb.length cSb, .slice aMb Mb.length cMb, .int .i64 Lb]] W' fun e w' => e = .returned (.bool true) ∧ Below W'.heap.size W' w') := Lib.hid fun W' h => by
    have g := valid_all Sb Mb Lb aSb aMb cSb cMb W' (by omega) (hSb.later h) (hMb.later h)
    rw [hvb] at g; exact g
  have hsa := vldB_shape hva
  have hsb := vldB_shape hvb
  have hla1 := hsa.lo
  have hla2 := hsa.hi
  have w1 : IntKind.i64.wrap (La + 1) = La + 1 := wrapi_mid (by omega) (by omega)
  have HCl : Hid (∀ W', Below w.heap.size w W' → Calls Tryd.prog 32 #[.agg #[.slice aSa Sa.length cSa, .slice aMa Ma.length cMa, .int .i64 La]] W' fun e w' => ∃ a b c d, e = .returned (.agg #[.slice a Sa.length c, .slice b Ma.length d, .int .i64 La]) ∧ Own w' W'.heap.size 3 a c (ints Sa) ∧ Own w' W'.heap.size 3 b d (ints Ma) ∧ (∀ p q, a = some p → b = some q → p.block ≠ q.block) ∧ Below W'.heap.size W' w') := Lib.hid fun W' h => dclone_all Sa Ma La aSa aMa cSa cMa W' (by omega) (by omega) (hSa.later h) (hMa.later h)
  have hvm : vldB Sa Ma (La + 1) = true := by
    obtain ⟨h1, h2⟩ := vldB_iff.1 hva
    exact vldB_iff.2 ⟨⟨h1.few, h1.len, by omega, by omega, h1.sign, h1.mate⟩, h2⟩
  have hcm : codeOf Sa Ma La ≠ codeOf Sa Ma (La + 1) := fun h => by have := (code_inj h).1; omega
  have HS1 : Hid (∀ (a b : Option Addr) (c d : Nat) W', Below w.heap.size w W' → IntsAt W' a Sa → IntsAt W' b Ma → Calls Tryd.prog 14 #[.agg #[.slice aSa Sa.length cSa, .slice aMa Ma.length cMa, .int .i64 La], .agg #[.slice a Sa.length c, .slice b Ma.length d, .int .i64 (La + 1)]] W' fun e w' => e = .returned (.bool false) ∧ Below W'.heap.size W' w') := Lib.hid fun a b c d W' h h1 h2 => by
    have g := csame_any Sa Ma La aSa aMa cSa cMa Sa Ma (La + 1) a b c d W' (by omega) (by omega) (by omega) (by omega) ga1 ga1 (hSa.later h) (hMa.later h) h1 h2
    have e : cSame Sa Ma La Sa Ma (La + 1) = false := by unfold cSame; rw [hva, hvm, decide_eq_false hcm]; rfl
    rw [e] at g; exact g
  have HK1 : Hid (∀ W', Below w.heap.size w W' → Calls Tryd.prog 24 #[.agg #[.slice aSa Sa.length cSa, .slice aMa Ma.length cMa, .int .i64 La]] W' fun e w' => e = .returned (.string ⟨(keyOf (codeOf Sa Ma La)).toArray⟩) ∧ Below W'.heap.size W' w') := Lib.hid fun W' h => by
    have g := key_any Sa Ma La aSa aMa cSa cMa W' ga1 (by omega) (ht.later h) (hSa.later h) (hMa.later h)
    rw [cdV_yes hva] at g; exact g
  have HK2 : Hid (∀ (a b : Option Addr) (c d : Nat) W', Below w.heap.size w W' → IntsAt W' a Sa → IntsAt W' b Ma → Calls Tryd.prog 24 #[.agg #[.slice a Sa.length c, .slice b Ma.length d, .int .i64 (La + 1)]] W' fun e w' => e = .returned (.string ⟨(keyOf (codeOf Sa Ma (La + 1))).toArray⟩) ∧ Below W'.heap.size W' w') := Lib.hid fun a b c d W' h h1 h2 => by
    have g := key_any Sa Ma (La + 1) a b c d W' ga1 (by omega) (ht.later h) h1 h2
    rw [cdV_yes hvm] at g; exact g
  have hkn : (keyOf (codeOf Sa Ma La)).toArray ≠ (keyOf (codeOf Sa Ma (La + 1))).toArray := fun h => hcm (keyOf_inj (codeOf_sml hva ga1) (codeOf_sml hvm ga1) (codeOf_ne _ _ _) (codeOf_ne _ _ _) (List.toArray_inj h))
  have tL : decide (La < 64) = true := decide_eq_true hL
  have HSb : Hid (∀ W', Below w.heap.size w W' → Calls Tryd.prog 14 #[.agg #[.slice aSa Sa.length cSa, .slice aMa Ma.length cMa, .int .i64 La], .agg #[.slice aSb Sb.length cSb, .slice aMb Mb.length cMb, .int .i64 Lb]] W' fun e w' => e = .returned (.bool false) ∧ Below W'.heap.size W' w') := Lib.hid fun W' h => by
    have g := csame_any Sa Ma La aSa aMa cSa cMa Sb Mb Lb aSb aMb cSb cMb W' (by omega) (by omega) (by omega) (by omega) ga1 gb1 (hSa.later h) (hMa.later h) (hSb.later h) (hMb.later h)
    have e : cSame Sa Ma La Sb Mb Lb = false := by unfold cSame; rw [hva, hvb, decide_eq_false hC]; rfl
    rw [e] at g; exact g
  have H0 := Lib.hid (((HH.start w).alloc #[.slice aSa Sa.length cSa, .slice aMa Ma.length cMa, .int .i64 La] 24 rfl rfl).alloc #[.slice aSb Sb.length cSb, .slice aMb Mb.length cMb, .int .i64 Lb] 24 (b := w.heap.size + 1) (by simp) rfl)
  clear ht hva hvb hga hgb hC hL hsa hsb hvm hcm
  generalize (keyOf (codeOf Sa Ma La)).toArray = K1 at *
  generalize (keyOf (codeOf Sa Ma (La + 1))).toArray = K2 at *
  have eK : ((⟨K1⟩ : ByteArray).toList == (⟨K2⟩ : ByteArray).toList) = false := by
    rw [beq_eq_false_iff_ne, ByteArray.toList_eq, ByteArray.toList_eq]; exact fun h => hkn (Array.toList_inj.1 h)
  clear hkn
  have HSS := Lib.hid hSa
  have HMM := Lib.hid hMa
  clear hSa hMa hSb hMb
  generalize Sa.length = na at *
  generalize Ma.length = Na at *
  generalize Sb.length = nb at *
  generalize Mb.length = Nb at *
  go_enter Tryd.func8, Tryd.ntmps8
  go_wp2_with fail
  refine (HA.out _ H0.out.below).mono ?_
  rintro e w1 ⟨rfl, hb⟩
  have H1 := Lib.hid (H0.out.call hb)
  clear hb H0 
  have k00 := H1.out.cell (k := 0) (i := 0) rfl rfl
  have k01 := H1.out.cell (k := 0) (i := 1) rfl rfl
  have k02 := H1.out.cell (k := 0) (i := 2) rfl rfl
  have k10 := H1.out.cell (k := 1) (i := 0) rfl rfl
  have k11 := H1.out.cell (k := 1) (i := 1) rfl rfl
  have k12 := H1.out.cell (k := 1) (i := 2) rfl rfl
  go_wp2_with fail
  clear k00 k01 k02 k10 k11 k12
  refine (HGa.out _).mono ?_
  rintro e w2 ⟨rfl, hb⟩
  have H2 := Lib.hid (H1.out.call hb)
  clear hb H1 
  have k00 := H2.out.cell (k := 0) (i := 0) rfl rfl
  have k01 := H2.out.cell (k := 0) (i := 1) rfl rfl
  have k02 := H2.out.cell (k := 0) (i := 2) rfl rfl
  have k10 := H2.out.cell (k := 1) (i := 0) rfl rfl
  have k11 := H2.out.cell (k := 1) (i := 1) rfl rfl
  have k12 := H2.out.cell (k := 1) (i := 2) rfl rfl
  go_wp2_with fail
  clear k00 k01 k02 k10 k11 k12
  refine (HGb.out _).mono ?_
  rintro e w3 ⟨rfl, hb⟩
  have H3 := Lib.hid (H2.out.call hb)
  clear hb H2 
  have k00 := H3.out.cell (k := 0) (i := 0) rfl rfl
  have k01 := H3.out.cell (k := 0) (i := 1) rfl rfl
  have k02 := H3.out.cell (k := 0) (i := 2) rfl rfl
  have k10 := H3.out.cell (k := 1) (i := 0) rfl rfl
  have k11 := H3.out.cell (k := 1) (i := 1) rfl rfl
  have k12 := H3.out.cell (k := 1) (i := 2) rfl rfl
  go_wp2_with fail
  clear k00 k01 k02 k10 k11 k12
  refine (HVa.out _ H3.out.below).mono ?_
  rintro e w4 ⟨rfl, hb⟩
  have H4 := Lib.hid (H3.out.call hb)
  clear hb H3 
  have k00 := H4.out.cell (k := 0) (i := 0) rfl rfl
  have k01 := H4.out.cell (k := 0) (i := 1) rfl rfl
  have k02 := H4.out.cell (k := 0) (i := 2) rfl rfl
  have k10 := H4.out.cell (k := 1) (i := 0) rfl rfl
  have k11 := H4.out.cell (k := 1) (i := 1) rfl rfl
  have k12 := H4.out.cell (k := 1) (i := 2) rfl rfl
  go_wp2_with fail
  clear k00 k01 k02 k10 k11 k12
  refine (HVb.out _ H4.out.below).mono ?_
  rintro e w5 ⟨rfl, hb⟩
  have H5 := Lib.hid (H4.out.call hb)
  clear hb H4 
  have k00 := H5.out.cell (k := 0) (i := 0) rfl rfl
  have k01 := H5.out.cell (k := 0) (i := 1) rfl rfl
  have k02 := H5.out.cell (k := 0) (i := 2) rfl rfl
  have k10 := H5.out.cell (k := 1) (i := 0) rfl rfl
  have k11 := H5.out.cell (k := 1) (i := 1) rfl rfl
  have k12 := H5.out.cell (k := 1) (i := 2) rfl rfl
  go_wp2_with fail
  clear k00 k01 k02 k10 k11 k12
  refine (HCl.out _ H5.out.below).mono ?_
  rintro e w6 ⟨a5, b5, c5, d5, rfl, ho1, ho2, hne, hb⟩
  have H6a := Lib.hid (H5.out.addSl2 hb ho1 ho2 hne)
  clear ho1 ho2 hne hb H5 HCl
  have H6 := Lib.hid (H6a.out.alloc #[.slice a5 na c5, .slice b5 Na d5, .int .i64 La] 24 (b := w6.heap.size) rfl rfl)
  go_upto_region 6 with fail
  clear H6a
  generalize w6.alloc (.cells #[.slice a5 na c5, .slice b5 Na d5, .int .i64 La] 24) = v6 at *
  generalize w6.heap.size = q5 at *
  have y2 := H6.out.cell (k := 2) (i := 2) rfl rfl
  have f2 := H6.out.frozen (k := 2) rfl 2
  go_upto_region 7 with fail
  have H7 := Lib.hid (H6.out.set (k := 2) rfl 2 (.int .i64 (La + 1)))
  clear y2 f2 H6
  generalize v6.setCell ⟨q5, 2, none⟩ (.int .i64 (La + 1)) = v7 at *
  go_upto_region 8 with fail
  have HQ : Hid (∀ W', Below v7.heap.size v7 W' → W'.cell? ⟨w.heap.size, 0, none⟩ = some (.slice aSa na cSa) ∧ W'.cell? ⟨w.heap.size, 1, none⟩ = some (.slice aMa Na cMa) ∧ W'.cell? ⟨w.heap.size, 2, none⟩ = some (.int .i64 La) ∧ W'.cell? ⟨w.heap.size + 1, 0, none⟩ = some (.slice aSb nb cSb) ∧ W'.cell? ⟨w.heap.size + 1, 1, none⟩ = some (.slice aMb Nb cMb) ∧ W'.cell? ⟨w.heap.size + 1, 2, none⟩ = some (.int .i64 Lb) ∧ W'.cell? ⟨q5, 0, none⟩ = some (.slice a5 na c5) ∧ W'.cell? ⟨q5, 1, none⟩ = some (.slice b5 Na d5) ∧ W'.cell? ⟨q5, 2, none⟩ = some (.int .i64 (La + 1))) := Lib.hid fun W' h => by
    have h1 := H7.out.call h
    exact ⟨(h1.cell (k := 0) (i := 0) rfl rfl), (h1.cell (k := 0) (i := 1) rfl rfl), (h1.cell (k := 0) (i := 2) rfl rfl), (h1.cell (k := 1) (i := 0) rfl rfl), (h1.cell (k := 1) (i := 1) rfl rfl), (h1.cell (k := 1) (i := 2) rfl rfl), (h1.cell (k := 2) (i := 0) rfl rfl), (h1.cell (k := 2) (i := 1) rfl rfl), (h1.cell (k := 2) (i := 2) rfl rfl)⟩
  have HD : Hid (∀ W', Below v7.heap.size v7 W' → Below w.heap.size w W') := Lib.hid fun W' h => below_of H7.out.below h H7.out.below.size
  have O7 := Lib.hid (And.intro (H7.out.sl (k := 0) rfl).ints (H7.out.sl (k := 1) rfl).ints)
  have B0 : Hid (Below v7.heap.size v7 v7.drew) := Lib.hid (Below.refl _ _).drew
  have Q0 := Lib.hid (HQ.out _ B0.out)
  go_region_held3 (fun W' => W'.cell? ⟨w.heap.size, 0, none⟩ = some (.slice aSa na cSa) ∧ W'.cell? ⟨w.heap.size, 1, none⟩ = some (.slice aMa Na cMa) ∧ W'.cell? ⟨w.heap.size, 2, none⟩ = some (.int .i64 La) ∧ W'.cell? ⟨w.heap.size + 1, 0, none⟩ = some (.slice aSb nb cSb) ∧ W'.cell? ⟨w.heap.size + 1, 1, none⟩ = some (.slice aMb Nb cMb) ∧ W'.cell? ⟨w.heap.size + 1, 2, none⟩ = some (.int .i64 Lb) ∧ W'.cell? ⟨q5, 0, none⟩ = some (.slice a5 na c5) ∧ W'.cell? ⟨q5, 1, none⟩ = some (.slice b5 Na d5) ∧ W'.cell? ⟨q5, 2, none⟩ = some (.int .i64 (La + 1)))
    (first
      | with_reducible exact Q0.out
      | with_reducible exact Q1.out
      | with_reducible exact Q2.out
      | with_reducible exact Q3.out)
    (first
      | ((with_reducible refine (HS1.out a5 b5 c5 d5 _ (HD.out _ B0.out) (O7.out.1.later B0.out) (O7.out.2.later B0.out)).mono ?_); rintro e z1 ⟨rfl, hb⟩; have B1 := Lib.hid (B0.out.trans (hb.mono B0.out.size)); have Q1 := Lib.hid (HQ.out _ B1.out); clear hb)
      | ((with_reducible refine (HK1.out _ (HD.out _ B1.out)).mono ?_); rintro e z2 ⟨rfl, hb⟩; have B2 := Lib.hid (B1.out.trans (hb.mono B1.out.size)); have Q2 := Lib.hid (HQ.out _ B2.out); clear hb)
      | ((with_reducible refine (HK2.out a5 b5 c5 d5 _ (HD.out _ B2.out) (O7.out.1.later B2.out) (O7.out.2.later B2.out)).mono ?_); rintro e z3 ⟨rfl, hb⟩; have B3 := Lib.hid (B2.out.trans (hb.mono B2.out.size)); have Q3 := Lib.hid (HQ.out _ B3.out); clear hb))
  go_upto_region 10 with fail
  have C0 : Hid (Below v7.heap.size v7 z3.drew) := Lib.hid B3.out.drew
  clear B0 B1 B2 B3 Q0 Q1 Q2 Q3
  have B0 := C0
  clear C0
  have Q0 := Lib.hid (HQ.out _ B0.out)
  have HRa : Hid (∀ W', Below v7.heap.size v7 W' → Row W' w.heap.size 24 [.slice aSa na cSa, .slice aMa Na cMa, .int .i64 La]) := Lib.hid fun W' h => (H7.out.call h).row (k := 0) rfl
  have HRb : Hid (∀ W', Below v7.heap.size v7 W' → Row W' (w.heap.size + 1) 24 [.slice aSb nb cSb, .slice aMb Nb cMb, .int .i64 Lb]) := Lib.hid fun W' h => (H7.out.call h).row (k := 1) rfl
  have HCx : Hid (∀ W', Below v7.heap.size v7 W' → Calls Tryd.prog 14 #[.agg #[.slice aSa na cSa, .slice aMa Na cMa, .int .i64 La], .agg #[.slice aSb nb cSb, .slice aMb Nb cMb, .int .i64 Lb]] W' fun e w' => e = .returned (.bool false) ∧ Below v7.heap.size v7 w') := Lib.hid fun W' h => (HSb.out W' (HD.out _ h)).mono fun e w' ⟨he, hb⟩ => ⟨he, h.trans (hb.mono h.size)⟩
  refine wp_region_class (fun W => Below v7.heap.size v7 W) (by kernel_rfl) (by kernel_rfl) B0.out ?_
  refine wpQuiet_loadRow (.tmp 2) 24 w.heap.size 24 [.slice aSa na cSa, .slice aMa Na cMa, .int .i64 La] rfl rfl rfl Tryd.isAgg24 Tryd.sizeOf24 HRa.out ?_
  simp only [Act.put, List.setIfInBounds_toArray, List.set_cons_succ, List.set_cons_zero]
  refine wpQuiet_loadRow (.tmp 3) 24 (w.heap.size + 1) 24 [.slice aSb nb cSb, .slice aMb Nb cMb, .int .i64 Lb] rfl rfl rfl Tryd.isAgg24 Tryd.sizeOf24 HRb.out ?_
  simp only [Act.put, List.setIfInBounds_toArray, List.set_cons_succ, List.set_cons_zero]
  refine wpQuiet_call (.bool false) 14 _ _ [.agg #[.slice aSa na cSa, .slice aMa Na cMa, .int .i64 La], .agg #[.slice aSb nb cSb, .slice aMb Nb cMb, .int .i64 Lb]] rfl rfl rfl Tryd.call14 HCx.out ?_
  simp only [Act.put, List.setIfInBounds_toArray, List.set_cons_succ, List.set_cons_zero]
  repeat (first | go_big_quiet_skip | (go_big_quiet_want; go_big_quiet_op; first | go_big_quiet_on | (refine ⟨_, fun _ _ => rfl, ?_⟩; go_big_quiet_on)))
  refine wpQuiet_nil ?_
  intro z1 hz1
  have B1 := Lib.hid (show Below v7.heap.size v7 z1 from hz1)
  go_wp2_with fail
  go_ret
  exact ⟨rfl, HD.out _ B1.out⟩
set_option maxRecDepth 100000 in
set_option maxHeartbeats 8000000 in
theorem lloo_7 (Sa Ma : List Int) (La : Int) (aSa aMa : Option Addr) (cSa cMa : Nat) (Sb Mb : List Int) (Lb : Int) (aSb aMb : Option Addr) (cSb cMb : Nat) (w : World) (ht : Pow10 w) (hga : greatB Sa Ma La = false) (hgb : greatB Sb Mb Lb = false) (hva : vldB Sa Ma La = true) (hvb : vldB Sb Mb Lb = true) (hL : La = 64) (hC : codeOf Sa Ma La = codeOf Sb Mb Lb) (hSa : IntsAt w aSa Sa) (hMa : IntsAt w aMa Ma) (hSb : IntsAt w aSb Sb) (hMb : IntsAt w aMb Mb) :
    Calls Tryd.prog 8 #[.agg #[.slice aSa Sa.length cSa, .slice aMa Ma.length cMa, .int .i64 La], .agg #[.slice aSb Sb.length cSb, .slice aMb Mb.length cMb, .int .i64 Lb]] w fun e w' => e = .returned (.bool true) ∧ Below w.heap.size w w' := by
  have HA : Hid (∀ W', Below w.heap.size w W' → Calls Tryd.prog 11 #[] W' fun e w' => e = .returned (.bool true) ∧ Below W'.heap.size W' w') := Lib.hid fun W' h => awake_any W' (ht.later h)
  have HGa : Hid (∀ W', Calls Tryd.prog 12 #[.agg #[.slice aSa Sa.length cSa, .slice aMa Ma.length cMa, .int .i64 La]] W' fun e w' => e = .returned (.bool false) ∧ Below W'.heap.size W' w') := Lib.hid fun W' => by
    have g := great_any Sa Ma La aSa aMa cSa cMa W'
    rw [hga] at g; exact g
  have HGb : Hid (∀ W', Calls Tryd.prog 12 #[.agg #[.slice aSb Sb.length cSb, .slice aMb Mb.length cMb, .int .i64 Lb]] W' fun e w' => e = .returned (.bool false) ∧ Below W'.heap.size W' w') := Lib.hid fun W' => by
    have g := great_any Sb Mb Lb aSb aMb cSb cMb W'
    rw [hgb] at g; exact g
  obtain ⟨ga1, ga2⟩ := greatB_no hga
  obtain ⟨gb1, gb2⟩ := greatB_no hgb
  have HVa : Hid (∀ W', Below w.heap.size w W' → Calls Tryd.prog 18 #[.agg #[.slice aSa Sa.length cSa, .slice aMa Ma.length cMa, .int .i64 La]] W' fun e w' => e = .returned (.bool true) ∧ Below W'.heap.size W' w') := Lib.hid fun W' h => by
    have g := valid_all Sa Ma La aSa aMa cSa cMa W' (by omega) (hSa.later h) (hMa.later h)
    rw [hva] at g; exact g
  have HVb : Hid (∀ W', Below w.heap.size w W' → Calls Tryd.prog 18 #[.agg #[.slice aSb Sb.length cSb, .slice aMb Mb.length cMb, .int .i64 Lb]] W' fun e w' => e = .returned (.bool true) ∧ Below W'.heap.size W' w') := Lib.hid fun W' h => by
    have g := valid_all Sb Mb Lb aSb aMb cSb cMb W' (by omega) (hSb.later h) (hMb.later h)
    rw [hvb] at g; exact g
  have hsa := vldB_shape hva
  have hsb := vldB_shape hvb
  have hla1 := hsa.lo
  have hla2 := hsa.hi
  have w1 : IntKind.i64.wrap (La + 1) = La + 1 := wrapi_mid (by omega) (by omega)
  have HCl : Hid (∀ W', Below w.heap.size w W' → Calls Tryd.prog 32 #[.agg #[.slice aSa Sa.length cSa, .slice aMa Ma.length cMa, .int .i64 La]] W' fun e w' => ∃ a b c d, e = .returned (.agg #[.slice a Sa.length c, .slice b Ma.length d, .int .i64 La]) ∧ Own w' W'.heap.size 3 a c (ints Sa) ∧ Own w' W'.heap.size 3 b d (ints Ma) ∧ (∀ p q, a = some p → b = some q → p.block ≠ q.block) ∧ Below W'.heap.size W' w') := Lib.hid fun W' h => dclone_all Sa Ma La aSa aMa cSa cMa W' (by omega) (by omega) (hSa.later h) (hMa.later h)
  have tL : decide (La < 64) = false := decide_eq_false (by omega)
  have HSb : Hid (∀ W', Below w.heap.size w W' → Calls Tryd.prog 14 #[.agg #[.slice aSa Sa.length cSa, .slice aMa Ma.length cMa, .int .i64 La], .agg #[.slice aSb Sb.length cSb, .slice aMb Mb.length cMb, .int .i64 Lb]] W' fun e w' => e = .returned (.bool true) ∧ Below W'.heap.size W' w') := Lib.hid fun W' h => by
    have g := csame_any Sa Ma La aSa aMa cSa cMa Sb Mb Lb aSb aMb cSb cMb W' (by omega) (by omega) (by omega) (by omega) ga1 gb1 (hSa.later h) (hMa.later h) (hSb.later h) (hMb.later h)
    have e : cSame Sa Ma La Sb Mb Lb = true := by unfold cSame; rw [hva, hvb, decide_eq_true hC]; rfl
    rw [e] at g; exact g
  obtain ⟨p1, p2, p3, p4, _⟩ := same_code hva hvb hC
  have hsg : ∀ (S M : List Int) (L : Int), Shape S M L → ∀ x, x ∈ S → -1 ≤ x ∧ x ≤ 1 := fun S M L hs x hx => by
    obtain ⟨i, hi, rfl⟩ := mem_nth hx
    rcases hs.sign i hi with e | e <;> rw [e] <;> decide
  have HU1 : Hid (∀ W', Below w.heap.size w W' → Calls Tryd.prog 33 #[.agg #[.slice aSa Sa.length cSa, .slice aMa Ma.length cMa, .int .i64 La]] W' fun e w' => e = .returned (.int .i64 (sumI Sa)) ∧ Below W'.heap.size W' w') := Lib.hid fun W' h => sum_any Sa Ma La aSa aMa cSa cMa W' ga1 (hsg _ _ _ hsa) (hSa.later h)
  have HU2 : Hid (∀ W', Below w.heap.size w W' → Calls Tryd.prog 33 #[.agg #[.slice aSb Sb.length cSb, .slice aMb Mb.length cMb, .int .i64 Lb]] W' fun e w' => e = .returned (.int .i64 (sumI Sa)) ∧ Below W'.heap.size W' w') := Lib.hid fun W' h => by
    rw [p3]; exact sum_any Sb Mb Lb aSb aMb cSb cMb W' gb1 (hsg _ _ _ hsb) (hSb.later h)
  have HF1 : Hid (∀ W', Below w.heap.size w W' → Calls Tryd.prog 34 #[.agg #[.slice aSa Sa.length cSa, .slice aMa Ma.length cMa, .int .i64 La]] W' fun e w' => ∃ A C, e = .returned (.slice A (facesL Ma Sa.length).length C) ∧ Below W'.heap.size W' w') := Lib.hid fun W' h => (faces_own Sa Ma La aSa aMa cSa cMa W' hva (hSa.later h) (hMa.later h)).mono fun e w' ⟨A, C, he, hb, _⟩ => ⟨A, C, he, hb⟩
  have HF2 : Hid (∀ W', Below w.heap.size w W' → Calls Tryd.prog 34 #[.agg #[.slice aSb Sb.length cSb, .slice aMb Mb.length cMb, .int .i64 Lb]] W' fun e w' => ∃ A C, e = .returned (.slice A (facesL Ma Sa.length).length C) ∧ Below W'.heap.size W' w') := Lib.hid fun W' h => (faces_own Sb Mb Lb aSb aMb cSb cMb W' hvb (hSb.later h) (hMb.later h)).mono fun e w' ⟨A, C, he, hb, _⟩ => ⟨A, C, by rw [p4]; exact he, hb⟩
  have tLL : (La == Lb) = true := by rw [p1]; exact beq_self_eq_true _
  have tnn : ((Sa.length : Int) == (Sb.length : Int)) = true := by rw [p2]; exact beq_self_eq_true _
  have tnn2 : (Sa.length == Sb.length) = true := by rw [p2]; exact beq_self_eq_true _
  have H0 := Lib.hid (((HH.start w).alloc #[.slice aSa Sa.length cSa, .slice aMa Ma.length cMa, .int .i64 La] 24 rfl rfl).alloc #[.slice aSb Sb.length cSb, .slice aMb Mb.length cMb, .int .i64 Lb] 24 (b := w.heap.size + 1) (by simp) rfl)
  clear ht hva hvb hga hgb hC hL hsa hsb p1 p2 p3 p4 hsg
  generalize (facesL Ma Sa.length).length = nf at *
  generalize sumI Sa = sm at *
  have HSS := Lib.hid hSa
  have HMM := Lib.hid hMa
  clear hSa hMa hSb hMb
  generalize Sa.length = na at *
  generalize Ma.length = Na at *
  generalize Sb.length = nb at *
  generalize Mb.length = Nb at *
  go_enter Tryd.func8, Tryd.ntmps8
  go_wp2_with fail
  refine (HA.out _ H0.out.below).mono ?_
  rintro e w1 ⟨rfl, hb⟩
  have H1 := Lib.hid (H0.out.call hb)
  clear hb H0 
  have k00 := H1.out.cell (k := 0) (i := 0) rfl rfl
  have k01 := H1.out.cell (k := 0) (i := 1) rfl rfl
  have k02 := H1.out.cell (k := 0) (i := 2) rfl rfl
  have k10 := H1.out.cell (k := 1) (i := 0) rfl rfl
  have k11 := H1.out.cell (k := 1) (i := 1) rfl rfl
  have k12 := H1.out.cell (k := 1) (i := 2) rfl rfl
  go_wp2_with fail
  clear k00 k01 k02 k10 k11 k12
  refine (HGa.out _).mono ?_
  rintro e w2 ⟨rfl, hb⟩
  have H2 := Lib.hid (H1.out.call hb)
  clear hb H1 
  have k00 := H2.out.cell (k := 0) (i := 0) rfl rfl
  have k01 := H2.out.cell (k := 0) (i := 1) rfl rfl
  have k02 := H2.out.cell (k := 0) (i := 2) rfl rfl
  have k10 := H2.out.cell (k := 1) (i := 0) rfl rfl
  have k11 := H2.out.cell (k := 1) (i := 1) rfl rfl
  have k12 := H2.out.cell (k := 1) (i := 2) rfl rfl
  go_wp2_with fail
  clear k00 k01 k02 k10 k11 k12
  refine (HGb.out _).mono ?_
  rintro e w3 ⟨rfl, hb⟩
  have H3 := Lib.hid (H2.out.call hb)
  clear hb H2 
  have k00 := H3.out.cell (k := 0) (i := 0) rfl rfl
  have k01 := H3.out.cell (k := 0) (i := 1) rfl rfl
  have k02 := H3.out.cell (k := 0) (i := 2) rfl rfl
  have k10 := H3.out.cell (k := 1) (i := 0) rfl rfl
  have k11 := H3.out.cell (k := 1) (i := 1) rfl rfl
  have k12 := H3.out.cell (k := 1) (i := 2) rfl rfl
  go_wp2_with fail
  clear k00 k01 k02 k10 k11 k12
  refine (HVa.out _ H3.out.below).mono ?_
  rintro e w4 ⟨rfl, hb⟩
  have H4 := Lib.hid (H3.out.call hb)
  clear hb H3 
  have k00 := H4.out.cell (k := 0) (i := 0) rfl rfl
  have k01 := H4.out.cell (k := 0) (i := 1) rfl rfl
  have k02 := H4.out.cell (k := 0) (i := 2) rfl rfl
  have k10 := H4.out.cell (k := 1) (i := 0) rfl rfl
  have k11 := H4.out.cell (k := 1) (i := 1) rfl rfl
  have k12 := H4.out.cell (k := 1) (i := 2) rfl rfl
  go_wp2_with fail
  clear k00 k01 k02 k10 k11 k12
  refine (HVb.out _ H4.out.below).mono ?_
  rintro e w5 ⟨rfl, hb⟩
  have H5 := Lib.hid (H4.out.call hb)
  clear hb H4 
  have k00 := H5.out.cell (k := 0) (i := 0) rfl rfl
  have k01 := H5.out.cell (k := 0) (i := 1) rfl rfl
  have k02 := H5.out.cell (k := 0) (i := 2) rfl rfl
  have k10 := H5.out.cell (k := 1) (i := 0) rfl rfl
  have k11 := H5.out.cell (k := 1) (i := 1) rfl rfl
  have k12 := H5.out.cell (k := 1) (i := 2) rfl rfl
  go_wp2_with fail
  clear k00 k01 k02 k10 k11 k12
  refine (HCl.out _ H5.out.below).mono ?_
  rintro e w6 ⟨a5, b5, c5, d5, rfl, ho1, ho2, hne, hb⟩
  have H6a := Lib.hid (H5.out.addSl2 hb ho1 ho2 hne)
  clear ho1 ho2 hne hb H5 HCl
  have H6 := Lib.hid (H6a.out.alloc #[.slice a5 na c5, .slice b5 Na d5, .int .i64 La] 24 (b := w6.heap.size) rfl rfl)
  go_upto_region 6 with fail
  clear H6a
  generalize w6.alloc (.cells #[.slice a5 na c5, .slice b5 Na d5, .int .i64 La] 24) = v6 at *
  generalize w6.heap.size = q5 at *
  have y2 := H6.out.cell (k := 2) (i := 2) rfl rfl
  have f2 := H6.out.frozen (k := 2) rfl 2
  go_upto_region 7 with fail
  have H7 := Lib.hid (H6.out.set (k := 2) rfl 2 (.int .i64 (La + 1)))
  clear y2 f2 H6
  generalize v6.setCell ⟨q5, 2, none⟩ (.int .i64 (La + 1)) = v7 at *
  go_upto_region 8 with fail
  have HQ : Hid (∀ W', Below v7.heap.size v7 W' → W'.cell? ⟨w.heap.size, 0, none⟩ = some (.slice aSa na cSa) ∧ W'.cell? ⟨w.heap.size, 1, none⟩ = some (.slice aMa Na cMa) ∧ W'.cell? ⟨w.heap.size, 2, none⟩ = some (.int .i64 La) ∧ W'.cell? ⟨w.heap.size + 1, 0, none⟩ = some (.slice aSb nb cSb) ∧ W'.cell? ⟨w.heap.size + 1, 1, none⟩ = some (.slice aMb Nb cMb) ∧ W'.cell? ⟨w.heap.size + 1, 2, none⟩ = some (.int .i64 Lb) ∧ W'.cell? ⟨q5, 0, none⟩ = some (.slice a5 na c5) ∧ W'.cell? ⟨q5, 1, none⟩ = some (.slice b5 Na d5) ∧ W'.cell? ⟨q5, 2, none⟩ = some (.int .i64 (La + 1))) := Lib.hid fun W' h => by
    have h1 := H7.out.call h
    exact ⟨(h1.cell (k := 0) (i := 0) rfl rfl), (h1.cell (k := 0) (i := 1) rfl rfl), (h1.cell (k := 0) (i := 2) rfl rfl), (h1.cell (k := 1) (i := 0) rfl rfl), (h1.cell (k := 1) (i := 1) rfl rfl), (h1.cell (k := 1) (i := 2) rfl rfl), (h1.cell (k := 2) (i := 0) rfl rfl), (h1.cell (k := 2) (i := 1) rfl rfl), (h1.cell (k := 2) (i := 2) rfl rfl)⟩
  have HD : Hid (∀ W', Below v7.heap.size v7 W' → Below w.heap.size w W') := Lib.hid fun W' h => below_of H7.out.below h H7.out.below.size
  have O7 := Lib.hid (And.intro (H7.out.sl (k := 0) rfl).ints (H7.out.sl (k := 1) rfl).ints)
  have B0 : Hid (Below v7.heap.size v7 v7.drew) := Lib.hid (Below.refl _ _).drew
  have Q0 := Lib.hid (HQ.out _ B0.out)
  obtain ⟨x0, x1, x2, x3, x4, x5, x6, x7, x8⟩ := HQ.out _ (Below.refl _ _)
  go_quiet (fail)
  clear x0 x1 x2 x3 x4 x5 x6 x7 x8 B0 Q0
  go_upto_region 10 with fail
  have B0 : Hid (Below v7.heap.size v7 (v7.drewN (nq + 1))) := Lib.hid (below_drewNN (Below.refl _ _) (nq + 1))
  have Q0 := Lib.hid (HQ.out _ B0.out)
  have QQ := Lib.hid (HQ.out _ (below_drewNN (Below.refl _ _) nq).drew)
  go_region_held3 (fun W' => W'.cell? ⟨w.heap.size, 0, none⟩ = some (.slice aSa na cSa) ∧ W'.cell? ⟨w.heap.size, 1, none⟩ = some (.slice aMa Na cMa) ∧ W'.cell? ⟨w.heap.size, 2, none⟩ = some (.int .i64 La) ∧ W'.cell? ⟨w.heap.size + 1, 0, none⟩ = some (.slice aSb nb cSb) ∧ W'.cell? ⟨w.heap.size + 1, 1, none⟩ = some (.slice aMb Nb cMb) ∧ W'.cell? ⟨w.heap.size + 1, 2, none⟩ = some (.int .i64 Lb) ∧ W'.cell? ⟨q5, 0, none⟩ = some (.slice a5 na c5) ∧ W'.cell? ⟨q5, 1, none⟩ = some (.slice b5 Na d5) ∧ W'.cell? ⟨q5, 2, none⟩ = some (.int .i64 (La + 1)))
    (first
      | with_reducible exact Q0.out
      | with_reducible exact QQ.out
      | with_reducible exact Q1.out
      | with_reducible exact Q2.out
      | with_reducible exact Q3.out
      | with_reducible exact Q4.out
      | with_reducible exact Q5.out)
    (first
      | ((with_reducible refine (HSb.out _ (HD.out _ B0.out)).mono ?_); rintro e z1 ⟨rfl, hb⟩; have B1 := Lib.hid (B0.out.trans (hb.mono B0.out.size)); have Q1 := Lib.hid (HQ.out _ B1.out); clear hb)
      | ((with_reducible refine (HU1.out _ (HD.out _ B1.out)).mono ?_); rintro e z2 ⟨rfl, hb⟩; have B2 := Lib.hid (B1.out.trans (hb.mono B1.out.size)); have Q2 := Lib.hid (HQ.out _ B2.out); clear hb)
      | ((with_reducible refine (HU2.out _ (HD.out _ B2.out)).mono ?_); rintro e z3 ⟨rfl, hb⟩; have B3 := Lib.hid (B2.out.trans (hb.mono B2.out.size)); have Q3 := Lib.hid (HQ.out _ B3.out); clear hb)
      | ((with_reducible refine (HF1.out _ (HD.out _ B3.out)).mono ?_); rintro e z4 ⟨A4, C4, rfl, hb⟩; have B4 := Lib.hid (B3.out.trans (hb.mono B3.out.size)); have Q4 := Lib.hid (HQ.out _ B4.out); clear hb)
      | ((with_reducible refine (HF2.out _ (HD.out _ B4.out)).mono ?_); rintro e z5 ⟨A5, C5, rfl, hb⟩; have B5 := Lib.hid (B4.out.trans (hb.mono B4.out.size)); have Q5 := Lib.hid (HQ.out _ B5.out); clear hb))
  go_wp2_with fail
  go_ret
  exact ⟨rfl, HD.out _ B5.out⟩
set_option maxRecDepth 100000 in
set_option maxHeartbeats 8000000 in
theorem lloo_8 (Sa Ma : List Int) (La : Int) (aSa aMa : Option Addr) (cSa cMa : Nat) (Sb Mb : List Int) (Lb : Int) (aSb aMb : Option Addr) (cSb cMb : Nat) (w : World) (ht : Pow10 w) (hga : greatB Sa Ma La = false) (hgb : greatB Sb Mb Lb = false) (hva : vldB Sa Ma La = true) (hvb : vldB Sb Mb Lb = true) (hL : La = 64) (hC : codeOf Sa Ma La ≠ codeOf Sb Mb Lb) (hSa : IntsAt w aSa Sa) (hMa : IntsAt w aMa Ma) (hSb : IntsAt w aSb Sb) (hMb : IntsAt w aMb Mb) :
    Calls Tryd.prog 8 #[.agg #[.slice aSa Sa.length cSa, .slice aMa Ma.length cMa, .int .i64 La], .agg #[.slice aSb Sb.length cSb, .slice aMb Mb.length cMb, .int .i64 Lb]] w fun e w' => e = .returned (.bool true) ∧ Below w.heap.size w w' := by
  have HA : Hid (∀ W', Below w.heap.size w W' → Calls Tryd.prog 11 #[] W' fun e w' => e = .returned (.bool true) ∧ Below W'.heap.size W' w') := Lib.hid fun W' h => awake_any W' (ht.later h)
  have HGa : Hid (∀ W', Calls Tryd.prog 12 #[.agg #[.slice aSa Sa.length cSa, .slice aMa Ma.length cMa, .int .i64 La]] W' fun e w' => e = .returned (.bool false) ∧ Below W'.heap.size W' w') := Lib.hid fun W' => by
    have g := great_any Sa Ma La aSa aMa cSa cMa W'
    rw [hga] at g; exact g
  have HGb : Hid (∀ W', Calls Tryd.prog 12 #[.agg #[.slice aSb Sb.length cSb, .slice aMb Mb.length cMb, .int .i64 Lb]] W' fun e w' => e = .returned (.bool false) ∧ Below W'.heap.size W' w') := Lib.hid fun W' => by
    have g := great_any Sb Mb Lb aSb aMb cSb cMb W'
    rw [hgb] at g; exact g
  obtain ⟨ga1, ga2⟩ := greatB_no hga
  obtain ⟨gb1, gb2⟩ := greatB_no hgb
  have HVa : Hid (∀ W', Below w.heap.size w W' → Calls Tryd.prog 18 #[.agg #[.slice aSa Sa.length cSa, .slice aMa Ma.length cMa, .int .i64 La]] W' fun e w' => e = .returned (.bool true) ∧ Below W'.heap.size W' w') := Lib.hid fun W' h => by
    have g := valid_all Sa Ma La aSa aMa cSa cMa W' (by omega) (hSa.later h) (hMa.later h)
    rw [hva] at g; exact g
  have HVb : Hid (∀ W', Below w.heap.size w W' → Calls Tryd.prog 18 #[.agg #[.slice aSb Sb.length cSb, .slice aMb Mb.length cMb, .int .i64 Lb]] W' fun e w' => e = .returned (.bool true) ∧ Below W'.heap.size W' w') := Lib.hid fun W' h => by
    have g := valid_all Sb Mb Lb aSb aMb cSb cMb W' (by omega) (hSb.later h) (hMb.later h)
    rw [hvb] at g; exact g
  have hsa := vldB_shape hva
  have hsb := vldB_shape hvb
  have hla1 := hsa.lo
  have hla2 := hsa.hi
  have w1 : IntKind.i64.wrap (La + 1) = La + 1 := wrapi_mid (by omega) (by omega)
  have HCl : Hid (∀ W', Below w.heap.size w W' → Calls Tryd.prog 32 #[.agg #[.slice aSa Sa.length cSa, .slice aMa Ma.length cMa, .int .i64 La]] W' fun e w' => ∃ a b c d, e = .returned (.agg #[.slice a Sa.length c, .slice b Ma.length d, .int .i64 La]) ∧ Own w' W'.heap.size 3 a c (ints Sa) ∧ Own w' W'.heap.size 3 b d (ints Ma) ∧ (∀ p q, a = some p → b = some q → p.block ≠ q.block) ∧ Below W'.heap.size W' w') := Lib.hid fun W' h => dclone_all Sa Ma La aSa aMa cSa cMa W' (by omega) (by omega) (hSa.later h) (hMa.later h)
  have tL : decide (La < 64) = false := decide_eq_false (by omega)
  have HSb : Hid (∀ W', Below w.heap.size w W' → Calls Tryd.prog 14 #[.agg #[.slice aSa Sa.length cSa, .slice aMa Ma.length cMa, .int .i64 La], .agg #[.slice aSb Sb.length cSb, .slice aMb Mb.length cMb, .int .i64 Lb]] W' fun e w' => e = .returned (.bool false) ∧ Below W'.heap.size W' w') := Lib.hid fun W' h => by
    have g := csame_any Sa Ma La aSa aMa cSa cMa Sb Mb Lb aSb aMb cSb cMb W' (by omega) (by omega) (by omega) (by omega) ga1 gb1 (hSa.later h) (hMa.later h) (hSb.later h) (hMb.later h)
    have e : cSame Sa Ma La Sb Mb Lb = false := by unfold cSame; rw [hva, hvb, decide_eq_false hC]; rfl
    rw [e] at g; exact g
  have H0 := Lib.hid (((HH.start w).alloc #[.slice aSa Sa.length cSa, .slice aMa Ma.length cMa, .int .i64 La] 24 rfl rfl).alloc #[.slice aSb Sb.length cSb, .slice aMb Mb.length cMb, .int .i64 Lb] 24 (b := w.heap.size + 1) (by simp) rfl)
  clear ht hva hvb hga hgb hC hL hsa hsb
  have HSS := Lib.hid hSa
  have HMM := Lib.hid hMa
  clear hSa hMa hSb hMb
  generalize Sa.length = na at *
  generalize Ma.length = Na at *
  generalize Sb.length = nb at *
  generalize Mb.length = Nb at *
  go_enter Tryd.func8, Tryd.ntmps8
  go_wp2_with fail
  refine (HA.out _ H0.out.below).mono ?_
  rintro e w1 ⟨rfl, hb⟩
  have H1 := Lib.hid (H0.out.call hb)
  clear hb H0 
  have k00 := H1.out.cell (k := 0) (i := 0) rfl rfl
  have k01 := H1.out.cell (k := 0) (i := 1) rfl rfl
  have k02 := H1.out.cell (k := 0) (i := 2) rfl rfl
  have k10 := H1.out.cell (k := 1) (i := 0) rfl rfl
  have k11 := H1.out.cell (k := 1) (i := 1) rfl rfl
  have k12 := H1.out.cell (k := 1) (i := 2) rfl rfl
  go_wp2_with fail
  clear k00 k01 k02 k10 k11 k12
  refine (HGa.out _).mono ?_
  rintro e w2 ⟨rfl, hb⟩
  have H2 := Lib.hid (H1.out.call hb)
  clear hb H1 
  have k00 := H2.out.cell (k := 0) (i := 0) rfl rfl
  have k01 := H2.out.cell (k := 0) (i := 1) rfl rfl
  have k02 := H2.out.cell (k := 0) (i := 2) rfl rfl
  have k10 := H2.out.cell (k := 1) (i := 0) rfl rfl
  have k11 := H2.out.cell (k := 1) (i := 1) rfl rfl
  have k12 := H2.out.cell (k := 1) (i := 2) rfl rfl
  go_wp2_with fail
  clear k00 k01 k02 k10 k11 k12
  refine (HGb.out _).mono ?_
  rintro e w3 ⟨rfl, hb⟩
  have H3 := Lib.hid (H2.out.call hb)
  clear hb H2 
  have k00 := H3.out.cell (k := 0) (i := 0) rfl rfl
  have k01 := H3.out.cell (k := 0) (i := 1) rfl rfl
  have k02 := H3.out.cell (k := 0) (i := 2) rfl rfl
  have k10 := H3.out.cell (k := 1) (i := 0) rfl rfl
  have k11 := H3.out.cell (k := 1) (i := 1) rfl rfl
  have k12 := H3.out.cell (k := 1) (i := 2) rfl rfl
  go_wp2_with fail
  clear k00 k01 k02 k10 k11 k12
  refine (HVa.out _ H3.out.below).mono ?_
  rintro e w4 ⟨rfl, hb⟩
  have H4 := Lib.hid (H3.out.call hb)
  clear hb H3 
  have k00 := H4.out.cell (k := 0) (i := 0) rfl rfl
  have k01 := H4.out.cell (k := 0) (i := 1) rfl rfl
  have k02 := H4.out.cell (k := 0) (i := 2) rfl rfl
  have k10 := H4.out.cell (k := 1) (i := 0) rfl rfl
  have k11 := H4.out.cell (k := 1) (i := 1) rfl rfl
  have k12 := H4.out.cell (k := 1) (i := 2) rfl rfl
  go_wp2_with fail
  clear k00 k01 k02 k10 k11 k12
  refine (HVb.out _ H4.out.below).mono ?_
  rintro e w5 ⟨rfl, hb⟩
  have H5 := Lib.hid (H4.out.call hb)
  clear hb H4 
  have k00 := H5.out.cell (k := 0) (i := 0) rfl rfl
  have k01 := H5.out.cell (k := 0) (i := 1) rfl rfl
  have k02 := H5.out.cell (k := 0) (i := 2) rfl rfl
  have k10 := H5.out.cell (k := 1) (i := 0) rfl rfl
  have k11 := H5.out.cell (k := 1) (i := 1) rfl rfl
  have k12 := H5.out.cell (k := 1) (i := 2) rfl rfl
  go_wp2_with fail
  clear k00 k01 k02 k10 k11 k12
  refine (HCl.out _ H5.out.below).mono ?_
  rintro e w6 ⟨a5, b5, c5, d5, rfl, ho1, ho2, hne, hb⟩
  have H6a := Lib.hid (H5.out.addSl2 hb ho1 ho2 hne)
  clear ho1 ho2 hne hb H5 HCl
  have H6 := Lib.hid (H6a.out.alloc #[.slice a5 na c5, .slice b5 Na d5, .int .i64 La] 24 (b := w6.heap.size) rfl rfl)
  go_upto_region 6 with fail
  clear H6a
  generalize w6.alloc (.cells #[.slice a5 na c5, .slice b5 Na d5, .int .i64 La] 24) = v6 at *
  generalize w6.heap.size = q5 at *
  have y2 := H6.out.cell (k := 2) (i := 2) rfl rfl
  have f2 := H6.out.frozen (k := 2) rfl 2
  go_upto_region 7 with fail
  have H7 := Lib.hid (H6.out.set (k := 2) rfl 2 (.int .i64 (La + 1)))
  clear y2 f2 H6
  generalize v6.setCell ⟨q5, 2, none⟩ (.int .i64 (La + 1)) = v7 at *
  go_upto_region 8 with fail
  have HQ : Hid (∀ W', Below v7.heap.size v7 W' → W'.cell? ⟨w.heap.size, 0, none⟩ = some (.slice aSa na cSa) ∧ W'.cell? ⟨w.heap.size, 1, none⟩ = some (.slice aMa Na cMa) ∧ W'.cell? ⟨w.heap.size, 2, none⟩ = some (.int .i64 La) ∧ W'.cell? ⟨w.heap.size + 1, 0, none⟩ = some (.slice aSb nb cSb) ∧ W'.cell? ⟨w.heap.size + 1, 1, none⟩ = some (.slice aMb Nb cMb) ∧ W'.cell? ⟨w.heap.size + 1, 2, none⟩ = some (.int .i64 Lb) ∧ W'.cell? ⟨q5, 0, none⟩ = some (.slice a5 na c5) ∧ W'.cell? ⟨q5, 1, none⟩ = some (.slice b5 Na d5) ∧ W'.cell? ⟨q5, 2, none⟩ = some (.int .i64 (La + 1))) := Lib.hid fun W' h => by
    have h1 := H7.out.call h
    exact ⟨(h1.cell (k := 0) (i := 0) rfl rfl), (h1.cell (k := 0) (i := 1) rfl rfl), (h1.cell (k := 0) (i := 2) rfl rfl), (h1.cell (k := 1) (i := 0) rfl rfl), (h1.cell (k := 1) (i := 1) rfl rfl), (h1.cell (k := 1) (i := 2) rfl rfl), (h1.cell (k := 2) (i := 0) rfl rfl), (h1.cell (k := 2) (i := 1) rfl rfl), (h1.cell (k := 2) (i := 2) rfl rfl)⟩
  have HD : Hid (∀ W', Below v7.heap.size v7 W' → Below w.heap.size w W') := Lib.hid fun W' h => below_of H7.out.below h H7.out.below.size
  have O7 := Lib.hid (And.intro (H7.out.sl (k := 0) rfl).ints (H7.out.sl (k := 1) rfl).ints)
  have B0 : Hid (Below v7.heap.size v7 v7.drew) := Lib.hid (Below.refl _ _).drew
  have Q0 := Lib.hid (HQ.out _ B0.out)
  obtain ⟨x0, x1, x2, x3, x4, x5, x6, x7, x8⟩ := HQ.out _ (Below.refl _ _)
  go_quiet (fail)
  clear x0 x1 x2 x3 x4 x5 x6 x7 x8 B0 Q0
  go_upto_region 10 with fail
  have B0 : Hid (Below v7.heap.size v7 ((v7.drewN nq).drew)) := Lib.hid (below_drewNN (Below.refl _ _) nq).drew
  have Q0 := Lib.hid (HQ.out _ B0.out)
  have QQ := Lib.hid (HQ.out _ (below_drewNN (Below.refl _ _) nq).drew)
  have HRa : Hid (∀ W', Below v7.heap.size v7 W' → Row W' w.heap.size 24 [.slice aSa na cSa, .slice aMa Na cMa, .int .i64 La]) := Lib.hid fun W' h => (H7.out.call h).row (k := 0) rfl
  have HRb : Hid (∀ W', Below v7.heap.size v7 W' → Row W' (w.heap.size + 1) 24 [.slice aSb nb cSb, .slice aMb Nb cMb, .int .i64 Lb]) := Lib.hid fun W' h => (H7.out.call h).row (k := 1) rfl
  have HCx : Hid (∀ W', Below v7.heap.size v7 W' → Calls Tryd.prog 14 #[.agg #[.slice aSa na cSa, .slice aMa Na cMa, .int .i64 La], .agg #[.slice aSb nb cSb, .slice aMb Nb cMb, .int .i64 Lb]] W' fun e w' => e = .returned (.bool false) ∧ Below v7.heap.size v7 w') := Lib.hid fun W' h => (HSb.out W' (HD.out _ h)).mono fun e w' ⟨he, hb⟩ => ⟨he, h.trans (hb.mono h.size)⟩
  refine wp_region_class (fun W => Below v7.heap.size v7 W) (by kernel_rfl) (by kernel_rfl) B0.out ?_
  refine wpQuiet_loadRow (.tmp 2) 24 w.heap.size 24 [.slice aSa na cSa, .slice aMa Na cMa, .int .i64 La] rfl rfl rfl Tryd.isAgg24 Tryd.sizeOf24 HRa.out ?_
  simp only [Act.put, List.setIfInBounds_toArray, List.set_cons_succ, List.set_cons_zero]
  refine wpQuiet_loadRow (.tmp 3) 24 (w.heap.size + 1) 24 [.slice aSb nb cSb, .slice aMb Nb cMb, .int .i64 Lb] rfl rfl rfl Tryd.isAgg24 Tryd.sizeOf24 HRb.out ?_
  simp only [Act.put, List.setIfInBounds_toArray, List.set_cons_succ, List.set_cons_zero]
  refine wpQuiet_call (.bool false) 14 _ _ [.agg #[.slice aSa na cSa, .slice aMa Na cMa, .int .i64 La], .agg #[.slice aSb nb cSb, .slice aMb Nb cMb, .int .i64 Lb]] rfl rfl rfl Tryd.call14 HCx.out ?_
  simp only [Act.put, List.setIfInBounds_toArray, List.set_cons_succ, List.set_cons_zero]
  repeat (first | go_big_quiet_skip | (go_big_quiet_want; go_big_quiet_op; first | go_big_quiet_on | (refine ⟨_, fun _ _ => rfl, ?_⟩; go_big_quiet_on)))
  refine wpQuiet_nil ?_
  intro z1 hz1
  have B1 := Lib.hid (show Below v7.heap.size v7 z1 from hz1)
  go_wp2_with fail
  go_ret
  exact ⟨rfl, HD.out _ B1.out⟩
theorem lloo_any (Sa Ma : List Int) (La : Int) (aSa aMa : Option Addr) (cSa cMa : Nat) (Sb Mb : List Int) (Lb : Int) (aSb aMb : Option Addr) (cSb cMb : Nat) (w : World) (ht : Pow10 w) (_ : Sa.length ≤ maxLen) (_ : Ma.length ≤ maxLen) (_ : (Lit.int .i64 La).wf = true) (hSa : IntsAt w aSa Sa) (hMa : IntsAt w aMa Ma) (_ : Sb.length ≤ maxLen) (_ : Mb.length ≤ maxLen) (_ : (Lit.int .i64 Lb).wf = true) (hSb : IntsAt w aSb Sb) (hMb : IntsAt w aMb Mb) :
    Calls Tryd.prog 8 #[.agg #[.slice aSa Sa.length cSa, .slice aMa Ma.length cMa, .int .i64 La], .agg #[.slice aSb Sb.length cSb, .slice aMb Mb.length cMb, .int .i64 Lb]] w fun e w' => e = .returned (.bool true) ∧ Below w.heap.size w w' := by
  cases hga : greatB Sa Ma La
  · cases hgb : greatB Sb Mb Lb
    · cases hva : vldB Sa Ma La
      · exact lloo_3 Sa Ma La aSa aMa cSa cMa Sb Mb Lb aSb aMb cSb cMb w ht hga hgb hva hSa hMa
      · cases hvb : vldB Sb Mb Lb
        · exact lloo_4 Sa Ma La aSa aMa cSa cMa Sb Mb Lb aSb aMb cSb cMb w ht hga hgb hva hvb hSa hMa hSb hMb
        · by_cases hL : La < 64
          · by_cases hC : codeOf Sa Ma La = codeOf Sb Mb Lb
            · exact lloo_5 Sa Ma La aSa aMa cSa cMa Sb Mb Lb aSb aMb cSb cMb w ht hga hgb hva hvb hL hC hSa hMa hSb hMb
            · exact lloo_6 Sa Ma La aSa aMa cSa cMa Sb Mb Lb aSb aMb cSb cMb w ht hga hgb hva hvb hL hC hSa hMa hSb hMb
          · have hL : La = 64 := by have := (vldB_shape hva).hi; omega
            by_cases hC : codeOf Sa Ma La = codeOf Sb Mb Lb
            · exact lloo_7 Sa Ma La aSa aMa cSa cMa Sb Mb Lb aSb aMb cSb cMb w ht hga hgb hva hvb hL hC hSa hMa hSb hMb
            · exact lloo_8 Sa Ma La aSa aMa cSa cMa Sb Mb Lb aSb aMb cSb cMb w ht hga hgb hva hvb hL hC hSa hMa hSb hMb
    · exact lloo_2 Sa Ma La aSa aMa cSa cMa Sb Mb Lb aSb aMb cSb cMb w ht hga hgb
  · exact lloo_1 Sa Ma La aSa aMa cSa cMa Sb Mb Lb aSb aMb cSb cMb w ht hga
end Go.Proofs.YtmhhjchnjaefhaaDoor

