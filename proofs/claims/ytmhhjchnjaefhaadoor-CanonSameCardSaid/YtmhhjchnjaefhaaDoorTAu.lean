/- The walk of the law CanonSame. -/
import Derived.WalkKit
import Derived.WalkSpells
import Derived.WalkLawsBesides
import Derived.Deep.AppendSrc
import Derived.Deep.LoopGhost
import Derived.Deep.QuietTactic
import Derived.Deep.RegionWith
import Derived.Deep.DeepMust
import Derived.Deep.DeepFit
import Derived.BigQuiet
import Derived.Lib.Hide
import Derived.Outline
import Derived.Test.YtmhhjchnjaefhaaDoorProg
import Derived.Deep.Matrix
import Derived.Deep.DeepCutAuto
import Derived.Deep.RegionLaw
import Derived.Deep.RegionHeld3
import Derived.Lib.SliceRun
import Derived.Shelf.Strings.Builder1
import Derived.Shelf.Small.Wraps
import Derived.Shelf.Strings.BuilderF
import Derived.Shelf.Strings.BuilderK
import Derived.Shelf.Strconv.Itoa0
import Derived.Shelf.Strconv.Itoa1
import Derived.Shelf.LaysM
import Derived.Shelf.Strconv.Itoa2
import Derived.Shelf.Strconv.Itoa3
import Derived.Shelf.Slices.Equal
import Derived.Ground.Names2Prog
import Derived.Shelf.Slices.Clone
import Derived.Shelf.Slices.SearchI
import Derived.Shelf.Slices.Empties2
import Derived.Ground.SlgnProg
import Derived.Shelf.SlicesE.Clone
import Derived.Sort.OwnSortedInts
import Derived.Shelf.Small.Bits
import Derived.Shelf.Sort.Plain
import Derived.Shelf.Slices.Turned
import Derived.Shelf.Slices.CompactI
import Derived.Shelf.Slices.Cells
import Derived.Shelf.Slices.In.SortNone
import Derived.Lib.AppendZeros
import Derived.Deep.RegionHeld
import Derived.Lib.Builder
import Derived.Lib.AppendStr
import Derived.Lib.Walk
import Derived.Laws.Externs
import Derived.Lib.AppendIntMem
import Derived.Test.YtmhhjchnjaefhaaDoorTAa
import Derived.Test.YtmhhjchnjaefhaaDoorTAb
import Derived.Test.YtmhhjchnjaefhaaDoorTAc
import Derived.Test.YtmhhjchnjaefhaaDoorTAd
import Derived.Test.YtmhhjchnjaefhaaDoorTAe
import Derived.Test.YtmhhjchnjaefhaaDoorTAf
import Derived.Test.YtmhhjchnjaefhaaDoorTAg
import Derived.Test.YtmhhjchnjaefhaaDoorTAh
import Derived.Test.YtmhhjchnjaefhaaDoorTAi
import Derived.Test.YtmhhjchnjaefhaaDoorTAj
import Derived.Test.YtmhhjchnjaefhaaDoorTAk
import Derived.Test.YtmhhjchnjaefhaaDoorTAl
import Derived.Test.YtmhhjchnjaefhaaDoorTAm
import Derived.Test.YtmhhjchnjaefhaaDoorTAn
import Derived.Test.YtmhhjchnjaefhaaDoorTAo
import Derived.Test.YtmhhjchnjaefhaaDoorTAp
import Derived.Test.YtmhhjchnjaefhaaDoorTAq
import Derived.Test.YtmhhjchnjaefhaaDoorTAr
import Derived.Test.YtmhhjchnjaefhaaDoorTAs
import Derived.Test.YtmhhjchnjaefhaaDoorTAt
namespace Go.Proofs.YtmhhjchnjaefhaaDoor
open Go Go.RowKit
section
variable {P : Program} {ops : Array Oper} {C : World → Prop} {Q : Act → Prop} {a : Act} {o : Oper} {rest : List Oper}
theorem wpQuiet_valW (v : Value) (hw : Region.wanted o (yielded ops a.tmps) = true) (hv : ∀ W, C W → (execOp a.eval o).run P W = .ok (.value v) W) (h : wpQuiet P ops C Q rest (a.put o.dst v)) : wpQuiet P ops C Q (o :: rest) a := by
  unfold wpQuiet
  rw [if_pos hw]
  refine ⟨v, fun W hW => ?_, h⟩
  unfold Oper.quietAt
  rw [hv W hW]
  exact ⟨rfl, rfl⟩
theorem wpQuiet_callW (v : Value) (f : FuncId) (xs : List Operand) (ts : Array TypeId) (vs : List Value) (hw : Region.wanted o (yielded ops a.tmps) = true) (hop : o.op = .call { callee := .value (.func f), args := xs.toArray, argTypes := ts })
    (hxs : xs.map a.eval = vs) (hf : ∀ args W, (callFunc f args).run P W = .ok (.enter f args) W) (hc : ∀ W, C W → Calls P f vs.toArray W (fun e w' => e = .returned v ∧ C w')) (h : wpQuiet P ops C Q rest (a.put o.dst v)) : wpQuiet P ops C Q (o :: rest) a := by
  unfold wpQuiet
  rw [if_pos hw]
  refine ⟨v, fun W hW => ?_, h⟩
  unfold Oper.quietAt
  have hr : (execOp a.eval o).run P W = .ok (.enter f vs.toArray) W := by
    simp [execOp, hop, resolve, hxs, Act.eval, Deferred.ofValue, invoke, hf]
  rw [hr]
  exact ⟨rfl, hc W hW⟩
theorem wpQuiet_loadRowW (x : Operand) (t b : Nat) (E : TypeId) (vs : List Value) (hw : Region.wanted o (yielded ops a.tmps) = true) (hop : o.op = .load t x) (hx : a.eval x = .pointer (some ⟨b, 0, none⟩))
    (hag : ∀ W, (isAgg t).run P W = .ok true W) (hsz : ∀ W, (sizeOf t).run P W = .ok vs.length W) (hr : ∀ W, C W → Row W b E vs) (h : wpQuiet P ops C Q rest (a.put o.dst (.agg vs.toArray))) : wpQuiet P ops C Q (o :: rest) a :=
  wpQuiet_valW _ hw (fun W hW => by simp [execOp, hop, hx, run_load_row (hag W) (hsz W) (hr W hW), Result.andThen]) h
end
set_option maxRecDepth 100000 in
set_option maxHeartbeats 8000000 in
theorem lsam_1 (Sa Ma : List Int) (La : Int) (aSa aMa : Option Addr) (cSa cMa : Nat) (Sb Mb : List Int) (Lb : Int) (aSb aMb : Option Addr) (cSb cMb : Nat) (w : World) (ht : Pow10 w) (hga : greatB Sa Ma La = true) :
    Calls Tryd.prog 3 #[.agg #[.slice aSa Sa.length cSa, .slice aMa Ma.length cMa, .int .i64 La], .agg #[.slice aSb Sb.length cSb, .slice aMb Mb.length cMb, .int .i64 Lb]] w fun e w' => e = .returned (.bool true) ∧ Below w.heap.size w w' := by
  have HA : Hid (∀ W', Below w.heap.size w W' → Calls Tryd.prog 11 #[] W' fun e w' => e = .returned (.bool true) ∧ Below W'.heap.size W' w') := Lib.hid fun W' h => awake_any W' (ht.later h)
  have HGa : Hid (∀ W', Calls Tryd.prog 12 #[.agg #[.slice aSa Sa.length cSa, .slice aMa Ma.length cMa, .int .i64 La]] W' fun e w' => e = .returned (.bool true) ∧ Below W'.heap.size W' w') := Lib.hid fun W' => by
    have g := great_any Sa Ma La aSa aMa cSa cMa W'
    rw [hga] at g; exact g
  have H0 := Lib.hid (((HH.start w).alloc #[.slice aSa Sa.length cSa, .slice aMa Ma.length cMa, .int .i64 La] 24 rfl rfl).alloc #[.slice aSb Sb.length cSb, .slice aMb Mb.length cMb, .int .i64 Lb] 24 (b := w.heap.size + 1) (by simp) rfl)
  clear hga ht
  generalize Sa.length = na at *
  generalize Ma.length = Na at *
  generalize Sb.length = nb at *
  generalize Mb.length = Nb at *
  go_enter Tryd.func3, Tryd.ntmps3
  go_wp2_with fail
  refine (HA.out _ H0.out.below).mono ?_
  rintro e w1 ⟨rfl, hb⟩
  have H1 := Lib.hid (H0.out.call hb)
  clear hb H0 
  have k00 := H1.out.cell (k := 0) (i := 0) rfl rfl
  have k01 := H1.out.cell (k := 0) (i := 1) rfl rfl
  have k02 := H1.out.cell (k := 0) (i := 2) rfl rfl
  have k10 := H1.out.cell (k := 1) (i := 0) rfl rfl
  have k11 := H1.out.cell (k := 1) (i := 1) rfl rfl
  have k12 := H1.out.cell (k := 1) (i := 2) rfl rfl
  go_wp2_with fail
  clear k00 k01 k02 k10 k11 k12
  refine (HGa.out _).mono ?_
  rintro e w2 ⟨rfl, hb⟩
  have H2 := Lib.hid (H1.out.call hb)
  clear hb H1 
  have k00 := H2.out.cell (k := 0) (i := 0) rfl rfl
  have k01 := H2.out.cell (k := 0) (i := 1) rfl rfl
  have k02 := H2.out.cell (k := 0) (i := 2) rfl rfl
  have k10 := H2.out.cell (k := 1) (i := 0) rfl rfl
  have k11 := H2.out.cell (k := 1) (i := 1) rfl rfl
  have k12 := H2.out.cell (k := 1) (i := 2) rfl rfl
  go_wp2_with fail
  go_ret
  exact ⟨rfl, H2.out.below⟩
set_option maxRecDepth 100000 in
set_option maxHeartbeats 8000000 in
theorem lsam_2 (Sa Ma : List Int) (La : Int) (aSa aMa : Option Addr) (cSa cMa : Nat) (Sb Mb : List Int) (Lb : Int) (aSb aMb : Option Addr) (cSb cMb : Nat) (w : World) (ht : Pow10 w) (hga : greatB Sa Ma La = false) (hgb : greatB Sb Mb Lb = true) :
    Calls Tryd.prog 3 #[.agg #[.slice aSa Sa.length cSa, .slice aMa Ma.length cMa, .int .i64 La], .agg #[.slice aSb Sb.length cSb, .slice aMb Mb.length cMb, .int .i64 Lb]] w fun e w' => e = .returned (.bool true) ∧ Below w.heap.size w w' := by
  have HA : Hid (∀ W', Below w.heap.size w W' → Calls Tryd.prog 11 #[] W' fun e w' => e = .returned (.bool true) ∧ Below W'.heap.size W' w') := Lib.hid fun W' h => awake_any W' (ht.later h)
  have HGa : Hid (∀ W', Calls Tryd.prog 12 #[.agg #[.slice aSa Sa.length cSa, .slice aMa Ma.length cMa, .int .i64 La]] W' fun e w' => e = .returned (.bool false) ∧ Below W'.heap.size W' w') := Lib.hid fun W' => by
    have g := great_any Sa Ma La aSa aMa cSa cMa W'
    rw [hga] at g; exact g
  have HGb : Hid (∀ W', Calls Tryd.prog 12 #[.agg #[.slice aSb Sb.length cSb, .slice aMb Mb.length cMb, .int .i64 Lb]] W' fun e w' => e = .returned (.bool true) ∧ Below W'.heap.size W' w') := Lib.hid fun W' => by
    have g := great_any Sb Mb Lb aSb aMb cSb cMb W'
    rw [hgb] at g; exact g
  have H0 := Lib.hid (((HH.start w).alloc #[.slice aSa Sa.length cSa, .slice aMa Ma.length cMa, .int .i64 La] 24 rfl rfl).alloc #[.slice aSb Sb.length cSb, .slice aMb Mb.length cMb, .int .i64 Lb] 24 (b := w.heap.size + 1) (by simp) rfl)
  clear hga hgb ht
  generalize Sa.length = na at *
  generalize Ma.length = Na at *
  generalize Sb.length = nb at *
  generalize Mb.length = Nb at *
  go_enter Tryd.func3, Tryd.ntmps3
  go_wp2_with fail
  refine (HA.out _ H0.out.below).mono ?_
  rintro e w1 ⟨rfl, hb⟩
  have H1 := Lib.hid (H0.out.call hb)
  clear hb H0 
  have k00 := H1.out.cell (k := 0) (i := 0) rfl rfl
  have k01 := H1.out.cell (k := 0) (i := 1) rfl rfl
  have k02 := H1.out.cell (k := 0) (i := 2) rfl rfl
  have k10 := H1.out.cell (k := 1) (i := 0) rfl rfl
  have k11 := H1.out.cell (k := 1) (i := 1) rfl rfl
  have k12 := H1.out.cell (k := 1) (i := 2) rfl rfl
  go_wp2_with fail
  clear k00 k01 k02 k10 k11 k12
  refine (HGa.out _).mono ?_
  rintro e w2 ⟨rfl, hb⟩
  have H2 := Lib.hid (H1.out.call hb)
  clear hb H1 
  have k00 := H2.out.cell (k := 0) (i := 0) rfl rfl
  have k01 := H2.out.cell (k := 0) (i := 1) rfl rfl
  have k02 := H2.out.cell (k := 0) (i := 2) rfl rfl
  have k10 := H2.out.cell (k := 1) (i := 0) rfl rfl
  have k11 := H2.out.cell (k := 1) (i := 1) rfl rfl
  have k12 := H2.out.cell (k := 1) (i := 2) rfl rfl
  go_wp2_with fail
  clear k00 k01 k02 k10 k11 k12
  refine (HGb.out _).mono ?_
  rintro e w3 ⟨rfl, hb⟩
  have H3 := Lib.hid (H2.out.call hb)
  clear hb H2 
  have k00 := H3.out.cell (k := 0) (i := 0) rfl rfl
  have k01 := H3.out.cell (k := 0) (i := 1) rfl rfl
  have k02 := H3.out.cell (k := 0) (i := 2) rfl rfl
  have k10 := H3.out.cell (k := 1) (i := 0) rfl rfl
  have k11 := H3.out.cell (k := 1) (i := 1) rfl rfl
  have k12 := H3.out.cell (k := 1) (i := 2) rfl rfl
  go_wp2_with fail
  go_ret
  exact ⟨rfl, H3.out.below⟩
set_option maxRecDepth 100000 in
set_option maxHeartbeats 8000000 in
theorem lsam_3 (Sa Ma : List Int) (La : Int) (aSa aMa : Option Addr) (cSa cMa : Nat) (Sb Mb : List Int) (Lb : Int) (aSb aMb : Option Addr) (cSb cMb : Nat) (w : World) (ht : Pow10 w) (hga : greatB Sa Ma La = false) (hgb : greatB Sb Mb Lb = false) (hva : vldB Sa Ma La = false) (hSa : IntsAt w aSa Sa) (hMa : IntsAt w aMa Ma) (hSb : IntsAt w aSb Sb) (hMb : IntsAt w aMb Mb) :
    Calls Tryd.prog 3 #[.agg #[.slice aSa Sa.length cSa, .slice aMa Ma.length cMa, .int .i64 La], .agg #[.slice aSb Sb.length cSb, .slice aMb Mb.length cMb, .int .i64 Lb]] w fun e w' => e = .returned (.bool true) ∧ Below w.heap.size w w' := by
  have HA : Hid (∀ W', Below w.heap.size w W' → Calls Tryd.prog 11 #[] W' fun e w' => e = .returned (.bool true) ∧ Below W'.heap.size W' w') := Lib.hid fun W' h => awake_any W' (ht.later h)
  have HGa : Hid (∀ W', Calls Tryd.prog 12 #[.agg #[.slice aSa Sa.length cSa, .slice aMa Ma.length cMa, .int .i64 La]] W' fun e w' => e = .returned (.bool false) ∧ Below W'.heap.size W' w') := Lib.hid fun W' => by
    have g := great_any Sa Ma La aSa aMa cSa cMa W'
    rw [hga] at g; exact g
  have HGb : Hid (∀ W', Calls Tryd.prog 12 #[.agg #[.slice aSb Sb.length cSb, .slice aMb Mb.length cMb, .int .i64 Lb]] W' fun e w' => e = .returned (.bool false) ∧ Below W'.heap.size W' w') := Lib.hid fun W' => by
    have g := great_any Sb Mb Lb aSb aMb cSb cMb W'
    rw [hgb] at g; exact g
  obtain ⟨ga1, ga2⟩ := greatB_no hga
  obtain ⟨gb1, gb2⟩ := greatB_no hgb
  have HVa : Hid (∀ W', Below w.heap.size w W' → Calls Tryd.prog 13 #[.agg #[.slice aSa Sa.length cSa, .slice aMa Ma.length cMa, .int .i64 La]] W' fun e w' => e = .returned (.bool false) ∧ Below W'.heap.size W' w') := Lib.hid fun W' h => by
    have g := rvalid_any Sa Ma La aSa aMa cSa cMa W' (by omega) (by omega) (hSa.later h) (hMa.later h)
    rw [hva] at g; exact g
  have HVb : Hid (∀ W', Below w.heap.size w W' → Calls Tryd.prog 13 #[.agg #[.slice aSb Sb.length cSb, .slice aMb Mb.length cMb, .int .i64 Lb]] W' fun e w' => e = .returned (.bool (vldB Sb Mb Lb)) ∧ Below W'.heap.size W' w') := Lib.hid fun W' h => by
    have g := rvalid_any Sb Mb Lb aSb aMb cSb cMb W' (by omega) (by omega) (hSb.later h) (hMb.later h)
    exact g
  have HSm : Hid (∀ W', Below w.heap.size w W' → Calls Tryd.prog 14 #[.agg #[.slice aSa Sa.length cSa, .slice aMa Ma.length cMa, .int .i64 La], .agg #[.slice aSb Sb.length cSb, .slice aMb Mb.length cMb, .int .i64 Lb]] W' fun e w' => e = .returned (.bool false) ∧ Below W'.heap.size W' w') := Lib.hid fun W' h => by
    have g := csame_any Sa Ma La aSa aMa cSa cMa Sb Mb Lb aSb aMb cSb cMb W' (by omega) (by omega) (by omega) (by omega) ga1 gb1 (hSa.later h) (hMa.later h) (hSb.later h) (hMb.later h)
    have e : cSame Sa Ma La Sb Mb Lb = false := by unfold cSame; rw [hva]; rfl
    rw [e] at g; exact g
  have HY : Hid (∀ W', Below w.heap.size w W' → Calls Tryd.prog 15 #[.agg #[.slice aSa Sa.length cSa, .slice aMa Ma.length cMa, .int .i64 La]] W' fun e w' => e = .returned (.int .i64 0) ∧ Below W'.heap.size W' w') := Lib.hid fun W' h => sym_no Sa Ma La aSa aMa cSa cMa W' (by omega) (by omega) hva (hSa.later h) (hMa.later h)
  have H0 := Lib.hid (((HH.start w).alloc #[.slice aSa Sa.length cSa, .slice aMa Ma.length cMa, .int .i64 La] 24 rfl rfl).alloc #[.slice aSb Sb.length cSb, .slice aMb Mb.length cMb, .int .i64 Lb] 24 (b := w.heap.size + 1) (by simp) rfl)
  clear hga hgb ht hva hSa hMa hSb hMb
  generalize vldB Sb Mb Lb = vb at *
  generalize Sa.length = na at *
  generalize Ma.length = Na at *
  generalize Sb.length = nb at *
  generalize Mb.length = Nb at *
  go_enter Tryd.func3, Tryd.ntmps3
  go_wp2_with fail
  refine (HA.out _ H0.out.below).mono ?_
  rintro e w1 ⟨rfl, hb⟩
  have H1 := Lib.hid (H0.out.call hb)
  clear hb H0 
  have k00 := H1.out.cell (k := 0) (i := 0) rfl rfl
  have k01 := H1.out.cell (k := 0) (i := 1) rfl rfl
  have k02 := H1.out.cell (k := 0) (i := 2) rfl rfl
  have k10 := H1.out.cell (k := 1) (i := 0) rfl rfl
  have k11 := H1.out.cell (k := 1) (i := 1) rfl rfl
  have k12 := H1.out.cell (k := 1) (i := 2) rfl rfl
  go_wp2_with fail
  clear k00 k01 k02 k10 k11 k12
  refine (HGa.out _).mono ?_
  rintro e w2 ⟨rfl, hb⟩
  have H2 := Lib.hid (H1.out.call hb)
  clear hb H1 
  have k00 := H2.out.cell (k := 0) (i := 0) rfl rfl
  have k01 := H2.out.cell (k := 0) (i := 1) rfl rfl
  have k02 := H2.out.cell (k := 0) (i := 2) rfl rfl
  have k10 := H2.out.cell (k := 1) (i := 0) rfl rfl
  have k11 := H2.out.cell (k := 1) (i := 1) rfl rfl
  have k12 := H2.out.cell (k := 1) (i := 2) rfl rfl
  go_wp2_with fail
  clear k00 k01 k02 k10 k11 k12
  refine (HGb.out _).mono ?_
  rintro e w3 ⟨rfl, hb⟩
  have H3 := Lib.hid (H2.out.call hb)
  clear hb H2 
  go_upto_region 5 with fail
  have HQ : Hid (∀ W', Below w3.heap.size w3 W' → W'.cell? ⟨w.heap.size, 0, none⟩ = some (.slice aSa na cSa) ∧ W'.cell? ⟨w.heap.size, 1, none⟩ = some (.slice aMa Na cMa) ∧ W'.cell? ⟨w.heap.size, 2, none⟩ = some (.int .i64 La) ∧ W'.cell? ⟨w.heap.size + 1, 0, none⟩ = some (.slice aSb nb cSb) ∧ W'.cell? ⟨w.heap.size + 1, 1, none⟩ = some (.slice aMb Nb cMb) ∧ W'.cell? ⟨w.heap.size + 1, 2, none⟩ = some (.int .i64 Lb)) := Lib.hid fun W' h => by
    have h1 := H3.out.call h
    exact ⟨(h1.cell (k := 0) (i := 0) rfl rfl), (h1.cell (k := 0) (i := 1) rfl rfl), (h1.cell (k := 0) (i := 2) rfl rfl), (h1.cell (k := 1) (i := 0) rfl rfl), (h1.cell (k := 1) (i := 1) rfl rfl), (h1.cell (k := 1) (i := 2) rfl rfl)⟩
  have HD : Hid (∀ W', Below w3.heap.size w3 W' → Below w.heap.size w W') := Lib.hid fun W' h => below_of H3.out.below h H3.out.below.size
  have B0 : Hid (Below w3.heap.size w3 w3.drew) := Lib.hid (Below.refl _ _).drew
  have Q0 := Lib.hid (HQ.out _ B0.out)
  go_region_held3 (fun W' => W'.cell? ⟨w.heap.size, 0, none⟩ = some (.slice aSa na cSa) ∧ W'.cell? ⟨w.heap.size, 1, none⟩ = some (.slice aMa Na cMa) ∧ W'.cell? ⟨w.heap.size, 2, none⟩ = some (.int .i64 La) ∧ W'.cell? ⟨w.heap.size + 1, 0, none⟩ = some (.slice aSb nb cSb) ∧ W'.cell? ⟨w.heap.size + 1, 1, none⟩ = some (.slice aMb Nb cMb) ∧ W'.cell? ⟨w.heap.size + 1, 2, none⟩ = some (.int .i64 Lb))
    (first
      | with_reducible exact Q0.out
      | with_reducible exact Q1.out
      | with_reducible exact Q2.out)
    (first
      | ((with_reducible refine (HVa.out _ (HD.out _ B0.out)).mono ?_); rintro e z1 ⟨rfl, hb⟩; have B1 := Lib.hid (B0.out.trans (hb.mono B0.out.size)); have Q1 := Lib.hid (HQ.out _ B1.out); clear hb)
      | ((with_reducible refine (HVb.out _ (HD.out _ B1.out)).mono ?_); rintro e z2 ⟨rfl, hb⟩; have B2 := Lib.hid (B1.out.trans (hb.mono B1.out.size)); have Q2 := Lib.hid (HQ.out _ B2.out); clear hb))
  have H4 := Lib.hid (H3.out.call B2.out)
  clear H3 Q0 Q1 Q2 B0 B1 B2 HQ HD
  have k00 := H4.out.cell (k := 0) (i := 0) rfl rfl
  have k01 := H4.out.cell (k := 0) (i := 1) rfl rfl
  have k02 := H4.out.cell (k := 0) (i := 2) rfl rfl
  have k10 := H4.out.cell (k := 1) (i := 0) rfl rfl
  have k11 := H4.out.cell (k := 1) (i := 1) rfl rfl
  have k12 := H4.out.cell (k := 1) (i := 2) rfl rfl
  go_wp2_with fail
  clear k00 k01 k02 k10 k11 k12
  refine (HSm.out _ H4.out.below).mono ?_
  rintro e w5 ⟨rfl, hb⟩
  have H5 := Lib.hid (H4.out.call hb)
  clear hb H4 
  have k00 := H5.out.cell (k := 0) (i := 0) rfl rfl
  have k01 := H5.out.cell (k := 0) (i := 1) rfl rfl
  have k02 := H5.out.cell (k := 0) (i := 2) rfl rfl
  have k10 := H5.out.cell (k := 1) (i := 0) rfl rfl
  have k11 := H5.out.cell (k := 1) (i := 1) rfl rfl
  have k12 := H5.out.cell (k := 1) (i := 2) rfl rfl
  go_wp2_with fail
  clear k00 k01 k02 k10 k11 k12
  refine (HY.out _ H5.out.below).mono ?_
  rintro e w6 ⟨rfl, hb⟩
  have H6 := Lib.hid (H5.out.call hb)
  clear hb H5 
  have k00 := H6.out.cell (k := 0) (i := 0) rfl rfl
  have k01 := H6.out.cell (k := 0) (i := 1) rfl rfl
  have k02 := H6.out.cell (k := 0) (i := 2) rfl rfl
  have k10 := H6.out.cell (k := 1) (i := 0) rfl rfl
  have k11 := H6.out.cell (k := 1) (i := 1) rfl rfl
  have k12 := H6.out.cell (k := 1) (i := 2) rfl rfl
  go_wp2_with fail
  go_ret
  exact ⟨rfl, H6.out.below⟩
set_option maxRecDepth 100000 in
set_option maxHeartbeats 8000000 in
theorem lsam_4 (Sa Ma : List Int) (La : Int) (aSa aMa : Option Addr) (cSa cMa : Nat) (Sb Mb : List Int) (Lb : Int) (aSb aMb : Option Addr) (cSb cMb : Nat) (w : World) (ht : Pow10 w) (hga : greatB Sa Ma La = false) (hgb : greatB Sb Mb Lb = false) (hva : vldB Sa Ma La = true) (hvb : vldB Sb Mb Lb = true) (hC : codeOf Sa Ma La = codeOf Sb Mb Lb) (hSa : IntsAt w aSa Sa) (hMa : IntsAt w aMa Ma) (hSb : IntsAt w aSb Sb) (hMb : IntsAt w aMb Mb) :
    Calls Tryd.prog 3 #[.agg #[.slice aSa Sa.length cSa, .slice aMa Ma.length cMa, .int .i64 La], .agg #[.slice aSb Sb.length cSb, .slice aMb Mb.length cMb, .int .i64 Lb]] w fun e w' => e = .returned (.bool true) ∧ Below w.heap.size w w' := by
  have HA : Hid (∀ W', Below w.heap.size w W' → Calls Tryd.prog 11 #[] W' fun e w' => e = .returned (.bool true) ∧ Below W'.heap.size W' w') := Lib.hid fun W' h => awake_any W' (ht.later h)
  have HGa : Hid (∀ W', Calls Tryd.prog 12 #[.agg #[.slice aSa Sa.length cSa, .slice aMa Ma.length cMa, .int .i64 La]] W' fun e w' => e = .returned (.bool false) ∧ Below W'.heap.size W' w') := Lib.hid fun W' => by
    have g := great_any Sa Ma La aSa aMa cSa cMa W'
    rw [hga] at g; exact g
  have HGb : Hid (∀ W', Calls Tryd.prog 12 #[.agg #[.slice aSb Sb.length cSb, .slice aMb Mb.length cMb, .int .i64 Lb]] W' fun e w' => e = .returned (.bool false) ∧ Below W'.heap.size W' w') := Lib.hid fun W' => by
    have g := great_any Sb Mb Lb aSb aMb cSb cMb W'
    rw [hgb] at g; exact g
  obtain ⟨ga1, ga2⟩ := greatB_no hga
  obtain ⟨gb1, gb2⟩ := greatB_no hgb
  have HVa : Hid (∀ W', Below w.heap.size w W' → Calls Tryd.prog 13 #[.agg #[.slice aSa Sa.length cSa, .slice aMa Ma.length cMa, .int .i64 La]] W' fun e w' => e = .returned (.bool true) ∧ Below W'.heap.size W' w') := Lib.hid fun W' h => by
    have g := rvalid_any Sa Ma La aSa aMa cSa cMa W' (by omega) (by omega) (hSa.later h) (hMa.later h)
    rw [hva] at g; exact g
  have HVb : Hid (∀ W', Below w.heap.size w W' → Calls Tryd.prog 13 #[.agg #[.slice aSb Sb.length cSb, .slice aMb Mb.length cMb, .int .i64 Lb]] W' fun e w' => e = .returned (.bool true) ∧ Below W'.heap.size W' w') := Lib.hid fun W' h => by
    have g := rvalid_any Sb Mb Lb aSb aMb cSb cMb W' (by omega) (by omega) (hSb.later h) (hMb.later h)
    rw [hvb] at g; exact g
  have HSm : Hid (∀ W', Below w.heap.size w W' → Calls Tryd.prog 14 #[.agg #[.slice aSa Sa.length cSa, .slice aMa Ma.length cMa, .int .i64 La], .agg #[.slice aSb Sb.length cSb, .slice aMb Mb.length cMb, .int .i64 Lb]] W' fun e w' => e = .returned (.bool true) ∧ Below W'.heap.size W' w') := Lib.hid fun W' h => by
    have g := csame_any Sa Ma La aSa aMa cSa cMa Sb Mb Lb aSb aMb cSb cMb W' (by omega) (by omega) (by omega) (by omega) ga1 gb1 (hSa.later h) (hMa.later h) (hSb.later h) (hMb.later h)
    have e : cSame Sa Ma La Sb Mb Lb = true := by unfold cSame; rw [hva, hvb, decide_eq_true hC]; rfl
    rw [e] at g; exact g
  have HY : Hid (∀ W', Below w.heap.size w W' → Calls Tryd.prog 15 #[.agg #[.slice aSa Sa.length cSa, .slice aMa Ma.length cMa, .int .i64 La]] W' fun e w' => e = .returned (.int .i64 (symV Sa Ma Sa.length)) ∧ Below W'.heap.size W' w') := Lib.hid fun W' h => sym_yes Sa Ma La aSa aMa cSa cMa W' hva ga1 (hSa.later h) (hMa.later h)
  have HR : Hid (∀ W', Below w.heap.size w W' → Calls Tryd.prog 16 #[.agg #[.slice aSa Sa.length cSa, .slice aMa Ma.length cMa, .int .i64 La]] W' fun e w' => e = .returned (.int .i64 (symV Sa Ma Sa.length)) ∧ Below W'.heap.size W' w') := Lib.hid fun W' h => rsym_any Sa Ma La aSa aMa cSa cMa W' hva ga1 (hSa.later h) (hMa.later h)
  have HRs : Hid (∀ W', Below w.heap.size w W' → Calls Tryd.prog 17 #[.agg #[.slice aSa Sa.length cSa, .slice aMa Ma.length cMa, .int .i64 La], .agg #[.slice aSb Sb.length cSb, .slice aMb Mb.length cMb, .int .i64 Lb]] W' fun e w' => e = .returned (.bool true) ∧ Below W'.heap.size W' w') := Lib.hid fun W' h => by
    have g := rsame_any Sa Ma La aSa aMa cSa cMa Sb Mb Lb aSb aMb cSb cMb W' hva hvb ga1 (hSa.later h) (hMa.later h) (hSb.later h) (hMb.later h)
    rw [decide_eq_true hC] at g; exact g
  have H0 := Lib.hid (((HH.start w).alloc #[.slice aSa Sa.length cSa, .slice aMa Ma.length cMa, .int .i64 La] 24 rfl rfl).alloc #[.slice aSb Sb.length cSb, .slice aMb Mb.length cMb, .int .i64 Lb] 24 (b := w.heap.size + 1) (by simp) rfl)
  clear hga hgb ht hva hvb hSa hMa hSb hMb hC
  generalize symV Sa Ma Sa.length = sv at *
  generalize Sa.length = na at *
  generalize Ma.length = Na at *
  generalize Sb.length = nb at *
  generalize Mb.length = Nb at *
  have tss : (sv == sv) = true := beq_self_eq_true _
  go_enter Tryd.func3, Tryd.ntmps3
  go_wp2_with fail
  refine (HA.out _ H0.out.below).mono ?_
  rintro e w1 ⟨rfl, hb⟩
  have H1 := Lib.hid (H0.out.call hb)
  clear hb H0 
  have k00 := H1.out.cell (k := 0) (i := 0) rfl rfl
  have k01 := H1.out.cell (k := 0) (i := 1) rfl rfl
  have k02 := H1.out.cell (k := 0) (i := 2) rfl rfl
  have k10 := H1.out.cell (k := 1) (i := 0) rfl rfl
  have k11 := H1.out.cell (k := 1) (i := 1) rfl rfl
  have k12 := H1.out.cell (k := 1) (i := 2) rfl rfl
  go_wp2_with fail
  clear k00 k01 k02 k10 k11 k12
  refine (HGa.out _).mono ?_
  rintro e w2 ⟨rfl, hb⟩
  have H2 := Lib.hid (H1.out.call hb)
  clear hb H1 
  have k00 := H2.out.cell (k := 0) (i := 0) rfl rfl
  have k01 := H2.out.cell (k := 0) (i := 1) rfl rfl
  have k02 := H2.out.cell (k := 0) (i := 2) rfl rfl
  have k10 := H2.out.cell (k := 1) (i := 0) rfl rfl
  have k11 := H2.out.cell (k := 1) (i := 1) rfl rfl
  have k12 := H2.out.cell (k := 1) (i := 2) rfl rfl
  go_wp2_with fail
  clear k00 k01 k02 k10 k11 k12
  refine (HGb.out _).mono ?_
  rintro e w3 ⟨rfl, hb⟩
  have H3 := Lib.hid (H2.out.call hb)
  clear hb H2 
  go_upto_region 5 with fail
  have HQ : Hid (∀ W', Below w3.heap.size w3 W' → W'.cell? ⟨w.heap.size, 0, none⟩ = some (.slice aSa na cSa) ∧ W'.cell? ⟨w.heap.size, 1, none⟩ = some (.slice aMa Na cMa) ∧ W'.cell? ⟨w.heap.size, 2, none⟩ = some (.int .i64 La) ∧ W'.cell? ⟨w.heap.size + 1, 0, none⟩ = some (.slice aSb nb cSb) ∧ W'.cell? ⟨w.heap.size + 1, 1, none⟩ = some (.slice aMb Nb cMb) ∧ W'.cell? ⟨w.heap.size + 1, 2, none⟩ = some (.int .i64 Lb)) := Lib.hid fun W' h => by
    have h1 := H3.out.call h
    exact ⟨(h1.cell (k := 0) (i := 0) rfl rfl), (h1.cell (k := 0) (i := 1) rfl rfl), (h1.cell (k := 0) (i := 2) rfl rfl), (h1.cell (k := 1) (i := 0) rfl rfl), (h1.cell (k := 1) (i := 1) rfl rfl), (h1.cell (k := 1) (i := 2) rfl rfl)⟩
  have HD : Hid (∀ W', Below w3.heap.size w3 W' → Below w.heap.size w W') := Lib.hid fun W' h => below_of H3.out.below h H3.out.below.size
  have B0 : Hid (Below w3.heap.size w3 w3.drew) := Lib.hid (Below.refl _ _).drew
  have Q0 := Lib.hid (HQ.out _ B0.out)
  go_region_held3 (fun W' => W'.cell? ⟨w.heap.size, 0, none⟩ = some (.slice aSa na cSa) ∧ W'.cell? ⟨w.heap.size, 1, none⟩ = some (.slice aMa Na cMa) ∧ W'.cell? ⟨w.heap.size, 2, none⟩ = some (.int .i64 La) ∧ W'.cell? ⟨w.heap.size + 1, 0, none⟩ = some (.slice aSb nb cSb) ∧ W'.cell? ⟨w.heap.size + 1, 1, none⟩ = some (.slice aMb Nb cMb) ∧ W'.cell? ⟨w.heap.size + 1, 2, none⟩ = some (.int .i64 Lb))
    (first
      | with_reducible exact Q0.out
      | with_reducible exact Q1.out
      | with_reducible exact Q2.out)
    (first
      | ((with_reducible refine (HVa.out _ (HD.out _ B0.out)).mono ?_); rintro e z1 ⟨rfl, hb⟩; have B1 := Lib.hid (B0.out.trans (hb.mono B0.out.size)); have Q1 := Lib.hid (HQ.out _ B1.out); clear hb)
      | ((with_reducible refine (HVb.out _ (HD.out _ B1.out)).mono ?_); rintro e z2 ⟨rfl, hb⟩; have B2 := Lib.hid (B1.out.trans (hb.mono B1.out.size)); have Q2 := Lib.hid (HQ.out _ B2.out); clear hb))
  clear Q0 Q1 Q2 B0 B1 HQ HD
  have H4 := Lib.hid (H3.out.call B2.out)
  clear H3 B2
  go_upto_region 8 with fail
  have HQ : Hid (∀ W', Below z2.heap.size z2 W' → W'.cell? ⟨w.heap.size, 0, none⟩ = some (.slice aSa na cSa) ∧ W'.cell? ⟨w.heap.size, 1, none⟩ = some (.slice aMa Na cMa) ∧ W'.cell? ⟨w.heap.size, 2, none⟩ = some (.int .i64 La) ∧ W'.cell? ⟨w.heap.size + 1, 0, none⟩ = some (.slice aSb nb cSb) ∧ W'.cell? ⟨w.heap.size + 1, 1, none⟩ = some (.slice aMb Nb cMb) ∧ W'.cell? ⟨w.heap.size + 1, 2, none⟩ = some (.int .i64 Lb)) := Lib.hid fun W' h => by
    have h1 := H4.out.call h
    exact ⟨(h1.cell (k := 0) (i := 0) rfl rfl), (h1.cell (k := 0) (i := 1) rfl rfl), (h1.cell (k := 0) (i := 2) rfl rfl), (h1.cell (k := 1) (i := 0) rfl rfl), (h1.cell (k := 1) (i := 1) rfl rfl), (h1.cell (k := 1) (i := 2) rfl rfl)⟩
  have HD : Hid (∀ W', Below z2.heap.size z2 W' → Below w.heap.size w W') := Lib.hid fun W' h => below_of H4.out.below h H4.out.below.size
  have B0 : Hid (Below z2.heap.size z2 z2.drew) := Lib.hid (Below.refl _ _).drew
  have Q0 := Lib.hid (HQ.out _ B0.out)
  go_region_held3 (fun W' => W'.cell? ⟨w.heap.size, 0, none⟩ = some (.slice aSa na cSa) ∧ W'.cell? ⟨w.heap.size, 1, none⟩ = some (.slice aMa Na cMa) ∧ W'.cell? ⟨w.heap.size, 2, none⟩ = some (.int .i64 La) ∧ W'.cell? ⟨w.heap.size + 1, 0, none⟩ = some (.slice aSb nb cSb) ∧ W'.cell? ⟨w.heap.size + 1, 1, none⟩ = some (.slice aMb Nb cMb) ∧ W'.cell? ⟨w.heap.size + 1, 2, none⟩ = some (.int .i64 Lb))
    (first
      | with_reducible exact Q0.out
      | with_reducible exact Q1.out
      | with_reducible exact Q2.out
      | with_reducible exact Q3.out
      | with_reducible exact Q4.out)
    (first
      | ((with_reducible refine (HY.out _ (HD.out _ B0.out)).mono ?_); rintro e z1 ⟨rfl, hb⟩; have B1 := Lib.hid (B0.out.trans (hb.mono B0.out.size)); have Q1 := Lib.hid (HQ.out _ B1.out); clear hb)
      | ((with_reducible refine (HR.out _ (HD.out _ B1.out)).mono ?_); rintro e z2 ⟨rfl, hb⟩; have B2 := Lib.hid (B1.out.trans (hb.mono B1.out.size)); have Q2 := Lib.hid (HQ.out _ B2.out); clear hb)
      | ((with_reducible refine (HSm.out _ (HD.out _ B2.out)).mono ?_); rintro e z3 ⟨rfl, hb⟩; have B3 := Lib.hid (B2.out.trans (hb.mono B2.out.size)); have Q3 := Lib.hid (HQ.out _ B3.out); clear hb)
      | ((with_reducible refine (HRs.out _ (HD.out _ B3.out)).mono ?_); rintro e z4 ⟨rfl, hb⟩; have B4 := Lib.hid (B3.out.trans (hb.mono B3.out.size)); have Q4 := Lib.hid (HQ.out _ B4.out); clear hb))
  go_wp2_with fail
  go_ret
  exact ⟨rfl, HD.out _ B4.out⟩
set_option maxRecDepth 100000 in
set_option maxHeartbeats 8000000 in
theorem lsam_4b (Sa Ma : List Int) (La : Int) (aSa aMa : Option Addr) (cSa cMa : Nat) (Sb Mb : List Int) (Lb : Int) (aSb aMb : Option Addr) (cSb cMb : Nat) (w : World) (ht : Pow10 w) (hga : greatB Sa Ma La = false) (hgb : greatB Sb Mb Lb = false) (hva : vldB Sa Ma La = true) (hvb : vldB Sb Mb Lb = true) (hC : codeOf Sa Ma La ≠ codeOf Sb Mb Lb) (hSa : IntsAt w aSa Sa) (hMa : IntsAt w aMa Ma) (hSb : IntsAt w aSb Sb) (hMb : IntsAt w aMb Mb) :
    Calls Tryd.prog 3 #[.agg #[.slice aSa Sa.length cSa, .slice aMa Ma.length cMa, .int .i64 La], .agg #[.slice aSb Sb.length cSb, .slice aMb Mb.length cMb, .int .i64 Lb]] w fun e w' => e = .returned (.bool true) ∧ Below w.heap.size w w' := by
  have HA : Hid (∀ W', Below w.heap.size w W' → Calls Tryd.prog 11 #[] W' fun e w' => e = .returned (.bool true) ∧ Below W'.heap.size W' w') := Lib.hid fun W' h => awake_any W' (ht.later h)
  have HGa : Hid (∀ W', Calls Tryd.prog 12 #[.agg #[.slice aSa Sa.length cSa, .slice aMa Ma.length cMa, .int .i64 La]] W' fun e w' => e = .returned (.bool false) ∧ Below W'.heap.size W' w') := Lib.hid fun W' => by
    have g := great_any Sa Ma La aSa aMa cSa cMa W'
    rw [hga] at g; exact g
  have HGb : Hid (∀ W', Calls Tryd.prog 12 #[.agg #[.slice aSb Sb.length cSb, .slice aMb Mb.length cMb, .int .i64 Lb]] W' fun e w' => e = .returned (.bool false) ∧ Below W'.heap.size W' w') := Lib.hid fun W' => by
    have g := great_any Sb Mb Lb aSb aMb cSb cMb W'
    rw [hgb] at g; exact g
  obtain ⟨ga1, ga2⟩ := greatB_no hga
  obtain ⟨gb1, gb2⟩ := greatB_no hgb
  have HVa : Hid (∀ W', Below w.heap.size w W' → Calls Tryd.prog 13 #[.agg #[.slice aSa Sa.length cSa, .slice aMa Ma.length cMa, .int .i64 La]] W' fun e w' => e = .returned (.bool true) ∧ Below W'.heap.size W' w') := Lib.hid fun W' h => by
    have g := rvalid_any Sa Ma La aSa aMa cSa cMa W' (by omega) (by omega) (hSa.later h) (hMa.later h)
    rw [hva] at g; exact g
  have HVb : Hid (∀ W', Below w.heap.size w W' → Calls Tryd.prog 13 #[.agg #[.slice aSb Sb.length cSb, .slice aMb Mb.length cMb, .int .i64 Lb]] W' fun e w' => e = .returned (.bool true) ∧ Below W'.heap.size W' w') := Lib.hid fun W' h => by
    have g := rvalid_any Sb Mb Lb aSb aMb cSb cMb W' (by omega) (by omega) (hSb.later h) (hMb.later h)
    rw [hvb] at g; exact g
  have HSm : Hid (∀ W', Below w.heap.size w W' → Calls Tryd.prog 14 #[.agg #[.slice aSa Sa.length cSa, .slice aMa Ma.length cMa, .int .i64 La], .agg #[.slice aSb Sb.length cSb, .slice aMb Mb.length cMb, .int .i64 Lb]] W' fun e w' => e = .returned (.bool false) ∧ Below W'.heap.size W' w') := Lib.hid fun W' h => by
    have g := csame_any Sa Ma La aSa aMa cSa cMa Sb Mb Lb aSb aMb cSb cMb W' (by omega) (by omega) (by omega) (by omega) ga1 gb1 (hSa.later h) (hMa.later h) (hSb.later h) (hMb.later h)
    have e : cSame Sa Ma La Sb Mb Lb = false := by unfold cSame; rw [hva, hvb, decide_eq_false hC]; rfl
    rw [e] at g; exact g
  have HY : Hid (∀ W', Below w.heap.size w W' → Calls Tryd.prog 15 #[.agg #[.slice aSa Sa.length cSa, .slice aMa Ma.length cMa, .int .i64 La]] W' fun e w' => e = .returned (.int .i64 (symV Sa Ma Sa.length)) ∧ Below W'.heap.size W' w') := Lib.hid fun W' h => sym_yes Sa Ma La aSa aMa cSa cMa W' hva ga1 (hSa.later h) (hMa.later h)
  have HR : Hid (∀ W', Below w.heap.size w W' → Calls Tryd.prog 16 #[.agg #[.slice aSa Sa.length cSa, .slice aMa Ma.length cMa, .int .i64 La]] W' fun e w' => e = .returned (.int .i64 (symV Sa Ma Sa.length)) ∧ Below W'.heap.size W' w') := Lib.hid fun W' h => rsym_any Sa Ma La aSa aMa cSa cMa W' hva ga1 (hSa.later h) (hMa.later h)
  have HRs : Hid (∀ W', Below w.heap.size w W' → Calls Tryd.prog 17 #[.agg #[.slice aSa Sa.length cSa, .slice aMa Ma.length cMa, .int .i64 La], .agg #[.slice aSb Sb.length cSb, .slice aMb Mb.length cMb, .int .i64 Lb]] W' fun e w' => e = .returned (.bool false) ∧ Below W'.heap.size W' w') := Lib.hid fun W' h => by
    have g := rsame_any Sa Ma La aSa aMa cSa cMa Sb Mb Lb aSb aMb cSb cMb W' hva hvb ga1 (hSa.later h) (hMa.later h) (hSb.later h) (hMb.later h)
    rw [decide_eq_false hC] at g; exact g
  have H0 := Lib.hid (((HH.start w).alloc #[.slice aSa Sa.length cSa, .slice aMa Ma.length cMa, .int .i64 La] 24 rfl rfl).alloc #[.slice aSb Sb.length cSb, .slice aMb Mb.length cMb, .int .i64 Lb] 24 (b := w.heap.size + 1) (by simp) rfl)
  clear hga hgb ht hva hvb hSa hMa hSb hMb hC
  generalize symV Sa Ma Sa.length = sv at *
  generalize Sa.length = na at *
  generalize Ma.length = Na at *
  generalize Sb.length = nb at *
  generalize Mb.length = Nb at *
  have tss : (sv == sv) = true := beq_self_eq_true _
  go_enter Tryd.func3, Tryd.ntmps3
  go_wp2_with fail
  refine (HA.out _ H0.out.below).mono ?_
  rintro e w1 ⟨rfl, hb⟩
  have H1 := Lib.hid (H0.out.call hb)
  clear hb H0 
  have k00 := H1.out.cell (k := 0) (i := 0) rfl rfl
  have k01 := H1.out.cell (k := 0) (i := 1) rfl rfl
  have k02 := H1.out.cell (k := 0) (i := 2) rfl rfl
  have k10 := H1.out.cell (k := 1) (i := 0) rfl rfl
  have k11 := H1.out.cell (k := 1) (i := 1) rfl rfl
  have k12 := H1.out.cell (k := 1) (i := 2) rfl rfl
  go_wp2_with fail
  clear k00 k01 k02 k10 k11 k12
  refine (HGa.out _).mono ?_
  rintro e w2 ⟨rfl, hb⟩
  have H2 := Lib.hid (H1.out.call hb)
  clear hb H1 
  have k00 := H2.out.cell (k := 0) (i := 0) rfl rfl
  have k01 := H2.out.cell (k := 0) (i := 1) rfl rfl
  have k02 := H2.out.cell (k := 0) (i := 2) rfl rfl
  have k10 := H2.out.cell (k := 1) (i := 0) rfl rfl
  have k11 := H2.out.cell (k := 1) (i := 1) rfl rfl
  have k12 := H2.out.cell (k := 1) (i := 2) rfl rfl
  go_wp2_with fail
  clear k00 k01 k02 k10 k11 k12
  refine (HGb.out _).mono ?_
  rintro e w3 ⟨rfl, hb⟩
  have H3 := Lib.hid (H2.out.call hb)
  clear hb H2 
  go_upto_region 5 with fail
  have HQ : Hid (∀ W', Below w3.heap.size w3 W' → W'.cell? ⟨w.heap.size, 0, none⟩ = some (.slice aSa na cSa) ∧ W'.cell? ⟨w.heap.size, 1, none⟩ = some (.slice aMa Na cMa) ∧ W'.cell? ⟨w.heap.size, 2, none⟩ = some (.int .i64 La) ∧ W'.cell? ⟨w.heap.size + 1, 0, none⟩ = some (.slice aSb nb cSb) ∧ W'.cell? ⟨w.heap.size + 1, 1, none⟩ = some (.slice aMb Nb cMb) ∧ W'.cell? ⟨w.heap.size + 1, 2, none⟩ = some (.int .i64 Lb)) := Lib.hid fun W' h => by
    have h1 := H3.out.call h
    exact ⟨(h1.cell (k := 0) (i := 0) rfl rfl), (h1.cell (k := 0) (i := 1) rfl rfl), (h1.cell (k := 0) (i := 2) rfl rfl), (h1.cell (k := 1) (i := 0) rfl rfl), (h1.cell (k := 1) (i := 1) rfl rfl), (h1.cell (k := 1) (i := 2) rfl rfl)⟩
  have HD : Hid (∀ W', Below w3.heap.size w3 W' → Below w.heap.size w W') := Lib.hid fun W' h => below_of H3.out.below h H3.out.below.size
  have B0 : Hid (Below w3.heap.size w3 w3.drew) := Lib.hid (Below.refl _ _).drew
  have Q0 := Lib.hid (HQ.out _ B0.out)
  go_region_held3 (fun W' => W'.cell? ⟨w.heap.size, 0, none⟩ = some (.slice aSa na cSa) ∧ W'.cell? ⟨w.heap.size, 1, none⟩ = some (.slice aMa Na cMa) ∧ W'.cell? ⟨w.heap.size, 2, none⟩ = some (.int .i64 La) ∧ W'.cell? ⟨w.heap.size + 1, 0, none⟩ = some (.slice aSb nb cSb) ∧ W'.cell? ⟨w.heap.size + 1, 1, none⟩ = some (.slice aMb Nb cMb) ∧ W'.cell? ⟨w.heap.size + 1, 2, none⟩ = some (.int .i64 Lb))
    (first
      | with_reducible exact Q0.out
      | with_reducible exact Q1.out
      | with_reducible exact Q2.out)
    (first
      | ((with_reducible refine (HVa.out _ (HD.out _ B0.out)).mono ?_); rintro e z1 ⟨rfl, hb⟩; have B1 := Lib.hid (B0.out.trans (hb.mono B0.out.size)); have Q1 := Lib.hid (HQ.out _ B1.out); clear hb)
      | ((with_reducible refine (HVb.out _ (HD.out _ B1.out)).mono ?_); rintro e z2 ⟨rfl, hb⟩; have B2 := Lib.hid (B1.out.trans (hb.mono B1.out.size)); have Q2 := Lib.hid (HQ.out _ B2.out); clear hb))
  clear Q0 Q1 Q2 B0 B1 HQ HD
  have H4 := Lib.hid (H3.out.call B2.out)
  clear H3 B2
  go_upto_region 8 with fail
  have HQ : Hid (∀ W', Below z2.heap.size z2 W' → W'.cell? ⟨w.heap.size, 0, none⟩ = some (.slice aSa na cSa) ∧ W'.cell? ⟨w.heap.size, 1, none⟩ = some (.slice aMa Na cMa) ∧ W'.cell? ⟨w.heap.size, 2, none⟩ = some (.int .i64 La) ∧ W'.cell? ⟨w.heap.size + 1, 0, none⟩ = some (.slice aSb nb cSb) ∧ W'.cell? ⟨w.heap.size + 1, 1, none⟩ = some (.slice aMb Nb cMb) ∧ W'.cell? ⟨w.heap.size + 1, 2, none⟩ = some (.int .i64 Lb)) := Lib.hid fun W' h => by
    have h1 := H4.out.call h
    exact ⟨(h1.cell (k := 0) (i := 0) rfl rfl), (h1.cell (k := 0) (i := 1) rfl rfl), (h1.cell (k := 0) (i := 2) rfl rfl), (h1.cell (k := 1) (i := 0) rfl rfl), (h1.cell (k := 1) (i := 1) rfl rfl), (h1.cell (k := 1) (i := 2) rfl rfl)⟩
  have HD : Hid (∀ W', Below z2.heap.size z2 W' → Below w.heap.size w W') := Lib.hid fun W' h => below_of H4.out.below h H4.out.below.size
  have B0 : Hid (Below z2.heap.size z2 z2.drew) := Lib.hid (Below.refl _ _).drew
  have Q0 := Lib.hid (HQ.out _ B0.out)
  go_region_held3 (fun W' => W'.cell? ⟨w.heap.size, 0, none⟩ = some (.slice aSa na cSa) ∧ W'.cell? ⟨w.heap.size, 1, none⟩ = some (.slice aMa Na cMa) ∧ W'.cell? ⟨w.heap.size, 2, none⟩ = some (.int .i64 La) ∧ W'.cell? ⟨w.heap.size + 1, 0, none⟩ = some (.slice aSb nb cSb) ∧ W'.cell? ⟨w.heap.size + 1, 1, none⟩ = some (.slice aMb Nb cMb) ∧ W'.cell? ⟨w.heap.size + 1, 2, none⟩ = some (.int .i64 Lb))
    (first
      | with_reducible exact Q0.out
      | with_reducible exact Q1.out
      | with_reducible exact Q2.out
      | with_reducible exact Q3.out
      | with_reducible exact Q4.out)
    (first
      | ((with_reducible refine (HY.out _ (HD.out _ B0.out)).mono ?_); rintro e z1 ⟨rfl, hb⟩; have B1 := Lib.hid (B0.out.trans (hb.mono B0.out.size)); have Q1 := Lib.hid (HQ.out _ B1.out); clear hb)
      | ((with_reducible refine (HR.out _ (HD.out _ B1.out)).mono ?_); rintro e z2 ⟨rfl, hb⟩; have B2 := Lib.hid (B1.out.trans (hb.mono B1.out.size)); have Q2 := Lib.hid (HQ.out _ B2.out); clear hb)
      | ((with_reducible refine (HSm.out _ (HD.out _ B2.out)).mono ?_); rintro e z3 ⟨rfl, hb⟩; have B3 := Lib.hid (B2.out.trans (hb.mono B2.out.size)); have Q3 := Lib.hid (HQ.out _ B3.out); clear hb)
      | ((with_reducible refine (HRs.out _ (HD.out _ B3.out)).mono ?_); rintro e z4 ⟨rfl, hb⟩; have B4 := Lib.hid (B3.out.trans (hb.mono B3.out.size)); have Q4 := Lib.hid (HQ.out _ B4.out); clear hb))
  go_wp2_with fail
  go_ret
  exact ⟨rfl, HD.out _ B4.out⟩
set_option maxRecDepth 100000 in
set_option maxHeartbeats 8000000 in
theorem lsam_5 (Sa Ma : List Int) (La : Int) (aSa aMa : Option Addr) (cSa cMa : Nat) (Sb Mb : List Int) (Lb : Int) (aSb aMb : Option Addr) (cSb cMb : Nat) (w : World) (ht : Pow10 w) (hga : greatB Sa Ma La = false) (hgb : greatB Sb Mb Lb = false) (hva : vldB Sa Ma La = true) (hvb : vldB Sb Mb Lb = false) (hSa : IntsAt w aSa Sa) (hMa : IntsAt w aMa Ma) (hSb : IntsAt w aSb Sb) (hMb : IntsAt w aMb Mb) :
    Calls Tryd.prog 3 #[.agg #[.slice aSa Sa.length cSa, .slice aMa Ma.length cMa, .int .i64 La], .agg #[.slice aSb Sb.length cSb, .slice aMb Mb.length cMb, .int .i64 Lb]] w fun e w' => e = .returned (.bool true) ∧ Below w.heap.size w w' := by
  have HA : Hid (∀ W', Below w.heap.size w W' → Calls Tryd.prog 11 #[] W' fun e w' => e = .returned (.bool true) ∧ Below W'.heap.size W' w') := Lib.hid fun W' h => awake_any W' (ht.later h)
  have HGa : Hid (∀ W', Calls Tryd.prog 12 #[.agg #[.slice aSa Sa.length cSa, .slice aMa Ma.length cMa, .int .i64 La]] W' fun e w' => e = .returned (.bool false) ∧ Below W'.heap.size W' w') := Lib.hid fun W' => by
    have g := great_any Sa Ma La aSa aMa cSa cMa W'
    rw [hga] at g; exact g
  have HGb : Hid (∀ W', Calls Tryd.prog 12 #[.agg #[.slice aSb Sb.length cSb, .slice aMb Mb.length cMb, .int .i64 Lb]] W' fun e w' => e = .returned (.bool false) ∧ Below W'.heap.size W' w') := Lib.hid fun W' => by
    have g := great_any Sb Mb Lb aSb aMb cSb cMb W'
    rw [hgb] at g; exact g
  obtain ⟨ga1, ga2⟩ := greatB_no hga
  obtain ⟨gb1, gb2⟩ := greatB_no hgb
  have HVa : Hid (∀ W', Below w.heap.size w W' → Calls Tryd.prog 13 #[.agg #[.slice aSa Sa.length cSa, .slice aMa Ma.length cMa, .int .i64 La]] W' fun e w' => e = .returned (.bool true) ∧ Below W'.heap.size W' w') := Lib.hid fun W' h => by
    have g := rvalid_any Sa Ma La aSa aMa cSa cMa W' (by omega) (by omega) (hSa.later h) (hMa.later h)
    rw [hva] at g; exact g
  have HVb : Hid (∀ W', Below w.heap.size w W' → Calls Tryd.prog 13 #[.agg #[.slice aSb Sb.length cSb, .slice aMb Mb.length cMb, .int .i64 Lb]] W' fun e w' => e = .returned (.bool false) ∧ Below W'.heap.size W' w') := Lib.hid fun W' h => by
    have g := rvalid_any Sb Mb Lb aSb aMb cSb cMb W' (by omega) (by omega) (hSb.later h) (hMb.later h)
    rw [hvb] at g; exact g
  have HSm : Hid (∀ W', Below w.heap.size w W' → Calls Tryd.prog 14 #[.agg #[.slice aSa Sa.length cSa, .slice aMa Ma.length cMa, .int .i64 La], .agg #[.slice aSb Sb.length cSb, .slice aMb Mb.length cMb, .int .i64 Lb]] W' fun e w' => e = .returned (.bool false) ∧ Below W'.heap.size W' w') := Lib.hid fun W' h => by
    have g := csame_any Sa Ma La aSa aMa cSa cMa Sb Mb Lb aSb aMb cSb cMb W' (by omega) (by omega) (by omega) (by omega) ga1 gb1 (hSa.later h) (hMa.later h) (hSb.later h) (hMb.later h)
    have e : cSame Sa Ma La Sb Mb Lb = false := by unfold cSame; rw [hva, hvb]; rfl
    rw [e] at g; exact g
  have HY : Hid (∀ W', Below w.heap.size w W' → Calls Tryd.prog 15 #[.agg #[.slice aSa Sa.length cSa, .slice aMa Ma.length cMa, .int .i64 La]] W' fun e w' => e = .returned (.int .i64 (symV Sa Ma Sa.length)) ∧ Below W'.heap.size W' w') := Lib.hid fun W' h => sym_yes Sa Ma La aSa aMa cSa cMa W' hva ga1 (hSa.later h) (hMa.later h)
  have HR : Hid (∀ W', Below w.heap.size w W' → Calls Tryd.prog 16 #[.agg #[.slice aSa Sa.length cSa, .slice aMa Ma.length cMa, .int .i64 La]] W' fun e w' => e = .returned (.int .i64 (symV Sa Ma Sa.length)) ∧ Below W'.heap.size W' w') := Lib.hid fun W' h => rsym_any Sa Ma La aSa aMa cSa cMa W' hva ga1 (hSa.later h) (hMa.later h)
  have H0 := Lib.hid (((HH.start w).alloc #[.slice aSa Sa.length cSa, .slice aMa Ma.length cMa, .int .i64 La] 24 rfl rfl).alloc #[.slice aSb Sb.length cSb, .slice aMb Mb.length cMb, .int .i64 Lb] 24 (b := w.heap.size + 1) (by simp) rfl)
  clear hga hgb ht hva hvb hSa hMa hSb hMb
  generalize symV Sa Ma Sa.length = sv at *
  generalize Sa.length = na at *
  generalize Ma.length = Na at *
  generalize Sb.length = nb at *
  generalize Mb.length = Nb at *
  have tss : (sv == sv) = true := beq_self_eq_true _
  go_enter Tryd.func3, Tryd.ntmps3
  go_wp2_with fail
  refine (HA.out _ H0.out.below).mono ?_
  rintro e w1 ⟨rfl, hb⟩
  have H1 := Lib.hid (H0.out.call hb)
  clear hb H0 
  have k00 := H1.out.cell (k := 0) (i := 0) rfl rfl
  have k01 := H1.out.cell (k := 0) (i := 1) rfl rfl
  have k02 := H1.out.cell (k := 0) (i := 2) rfl rfl
  have k10 := H1.out.cell (k := 1) (i := 0) rfl rfl
  have k11 := H1.out.cell (k := 1) (i := 1) rfl rfl
  have k12 := H1.out.cell (k := 1) (i := 2) rfl rfl
  go_wp2_with fail
  clear k00 k01 k02 k10 k11 k12
  refine (HGa.out _).mono ?_
  rintro e w2 ⟨rfl, hb⟩
  have H2 := Lib.hid (H1.out.call hb)
  clear hb H1 
  have k00 := H2.out.cell (k := 0) (i := 0) rfl rfl
  have k01 := H2.out.cell (k := 0) (i := 1) rfl rfl
  have k02 := H2.out.cell (k := 0) (i := 2) rfl rfl
  have k10 := H2.out.cell (k := 1) (i := 0) rfl rfl
  have k11 := H2.out.cell (k := 1) (i := 1) rfl rfl
  have k12 := H2.out.cell (k := 1) (i := 2) rfl rfl
  go_wp2_with fail
  clear k00 k01 k02 k10 k11 k12
  refine (HGb.out _).mono ?_
  rintro e w3 ⟨rfl, hb⟩
  have H3 := Lib.hid (H2.out.call hb)
  clear hb H2 
  go_upto_region 5 with fail
  have HQ : Hid (∀ W', Below w3.heap.size w3 W' → W'.cell? ⟨w.heap.size, 0, none⟩ = some (.slice aSa na cSa) ∧ W'.cell? ⟨w.heap.size, 1, none⟩ = some (.slice aMa Na cMa) ∧ W'.cell? ⟨w.heap.size, 2, none⟩ = some (.int .i64 La) ∧ W'.cell? ⟨w.heap.size + 1, 0, none⟩ = some (.slice aSb nb cSb) ∧ W'.cell? ⟨w.heap.size + 1, 1, none⟩ = some (.slice aMb Nb cMb) ∧ W'.cell? ⟨w.heap.size + 1, 2, none⟩ = some (.int .i64 Lb)) := Lib.hid fun W' h => by
    have h1 := H3.out.call h
    exact ⟨(h1.cell (k := 0) (i := 0) rfl rfl), (h1.cell (k := 0) (i := 1) rfl rfl), (h1.cell (k := 0) (i := 2) rfl rfl), (h1.cell (k := 1) (i := 0) rfl rfl), (h1.cell (k := 1) (i := 1) rfl rfl), (h1.cell (k := 1) (i := 2) rfl rfl)⟩
  have HD : Hid (∀ W', Below w3.heap.size w3 W' → Below w.heap.size w W') := Lib.hid fun W' h => below_of H3.out.below h H3.out.below.size
  have B0 : Hid (Below w3.heap.size w3 w3.drew) := Lib.hid (Below.refl _ _).drew
  have Q0 := Lib.hid (HQ.out _ B0.out)
  go_region_held3 (fun W' => W'.cell? ⟨w.heap.size, 0, none⟩ = some (.slice aSa na cSa) ∧ W'.cell? ⟨w.heap.size, 1, none⟩ = some (.slice aMa Na cMa) ∧ W'.cell? ⟨w.heap.size, 2, none⟩ = some (.int .i64 La) ∧ W'.cell? ⟨w.heap.size + 1, 0, none⟩ = some (.slice aSb nb cSb) ∧ W'.cell? ⟨w.heap.size + 1, 1, none⟩ = some (.slice aMb Nb cMb) ∧ W'.cell? ⟨w.heap.size + 1, 2, none⟩ = some (.int .i64 Lb))
    (first
      | with_reducible exact Q0.out
      | with_reducible exact Q1.out
      | with_reducible exact Q2.out)
    (first
      | ((with_reducible refine (HVa.out _ (HD.out _ B0.out)).mono ?_); rintro e z1 ⟨rfl, hb⟩; have B1 := Lib.hid (B0.out.trans (hb.mono B0.out.size)); have Q1 := Lib.hid (HQ.out _ B1.out); clear hb)
      | ((with_reducible refine (HVb.out _ (HD.out _ B1.out)).mono ?_); rintro e z2 ⟨rfl, hb⟩; have B2 := Lib.hid (B1.out.trans (hb.mono B1.out.size)); have Q2 := Lib.hid (HQ.out _ B2.out); clear hb))
  clear Q0 Q1 Q2 B0 B1 HQ HD
  have H4 := Lib.hid (H3.out.call B2.out)
  clear H3 B2
  go_upto_region 8 with fail
  have HD : Hid (∀ W', Below z2.heap.size z2 W' → Below w.heap.size w W') := Lib.hid fun W' h => below_of H4.out.below h H4.out.below.size
  have B0 : Hid (Below z2.heap.size z2 z2.drew) := Lib.hid (Below.refl _ _).drew
  have HRa : Hid (∀ W', Below z2.heap.size z2 W' → Row W' w.heap.size 24 [.slice aSa na cSa, .slice aMa Na cMa, .int .i64 La]) := Lib.hid fun W' h => (H4.out.call h).row (k := 0) rfl
  have HRb : Hid (∀ W', Below z2.heap.size z2 W' → Row W' (w.heap.size + 1) 24 [.slice aSb nb cSb, .slice aMb Nb cMb, .int .i64 Lb]) := Lib.hid fun W' h => (H4.out.call h).row (k := 1) rfl
  have C1 : Hid (∀ W', Below z2.heap.size z2 W' → Calls Tryd.prog 15 #[.agg #[.slice aSa na cSa, .slice aMa Na cMa, .int .i64 La]] W' fun e w' => e = .returned (.int .i64 sv) ∧ Below z2.heap.size z2 w') := Lib.hid fun W' h => (HY.out W' (HD.out _ h)).mono fun e w' ⟨he, hb⟩ => ⟨he, h.trans (hb.mono h.size)⟩
  have C2 : Hid (∀ W', Below z2.heap.size z2 W' → Calls Tryd.prog 16 #[.agg #[.slice aSa na cSa, .slice aMa Na cMa, .int .i64 La]] W' fun e w' => e = .returned (.int .i64 sv) ∧ Below z2.heap.size z2 w') := Lib.hid fun W' h => (HR.out W' (HD.out _ h)).mono fun e w' ⟨he, hb⟩ => ⟨he, h.trans (hb.mono h.size)⟩
  have C3 : Hid (∀ W', Below z2.heap.size z2 W' → Calls Tryd.prog 14 #[.agg #[.slice aSa na cSa, .slice aMa Na cMa, .int .i64 La], .agg #[.slice aSb nb cSb, .slice aMb Nb cMb, .int .i64 Lb]] W' fun e w' => e = .returned (.bool false) ∧ Below z2.heap.size z2 w') := Lib.hid fun W' h => (HSm.out W' (HD.out _ h)).mono fun e w' ⟨he, hb⟩ => ⟨he, h.trans (hb.mono h.size)⟩
  refine wp_region_class (fun W => Below z2.heap.size z2 W) (by kernel_rfl) (by kernel_rfl) B0.out ?_
  refine wpQuiet_loadRowW (.tmp 2) 24 w.heap.size 24 [.slice aSa na cSa, .slice aMa Na cMa, .int .i64 La] (by rfl) rfl rfl Tryd.isAgg24 Tryd.sizeOf24 HRa.out ?_
  simp only [Act.put, List.setIfInBounds_toArray, List.set_cons_succ, List.set_cons_zero]
  refine wpQuiet_callW (.int .i64 sv) 15 _ _ [.agg #[.slice aSa na cSa, .slice aMa Na cMa, .int .i64 La]] (by rfl) rfl rfl Tryd.call15 C1.out ?_
  simp only [Act.put, List.setIfInBounds_toArray, List.set_cons_succ, List.set_cons_zero]
  refine wpQuiet_loadRowW (.tmp 2) 24 w.heap.size 24 [.slice aSa na cSa, .slice aMa Na cMa, .int .i64 La] (by rfl) rfl rfl Tryd.isAgg24 Tryd.sizeOf24 HRa.out ?_
  simp only [Act.put, List.setIfInBounds_toArray, List.set_cons_succ, List.set_cons_zero]
  refine wpQuiet_callW (.int .i64 sv) 16 _ _ [.agg #[.slice aSa na cSa, .slice aMa Na cMa, .int .i64 La]] (by rfl) rfl rfl Tryd.call16 C2.out ?_
  simp only [Act.put, List.setIfInBounds_toArray, List.set_cons_succ, List.set_cons_zero]
  (first | go_big_quiet_skip | (go_big_quiet_want; go_big_quiet_op; first | go_big_quiet_on | (refine ⟨_, fun _ _ => rfl, ?_⟩; go_big_quiet_on)))
  (first | go_big_quiet_skip | (go_big_quiet_want; go_big_quiet_op; first | go_big_quiet_on | (refine ⟨_, fun _ _ => rfl, ?_⟩; go_big_quiet_on)))
  refine wpQuiet_loadRowW (.tmp 2) 24 w.heap.size 24 [.slice aSa na cSa, .slice aMa Na cMa, .int .i64 La] (by rfl) rfl rfl Tryd.isAgg24 Tryd.sizeOf24 HRa.out ?_
  simp only [Act.put, List.setIfInBounds_toArray, List.set_cons_succ, List.set_cons_zero]
  refine wpQuiet_loadRowW (.tmp 3) 24 (w.heap.size + 1) 24 [.slice aSb nb cSb, .slice aMb Nb cMb, .int .i64 Lb] (by rfl) rfl rfl Tryd.isAgg24 Tryd.sizeOf24 HRb.out ?_
  simp only [Act.put, List.setIfInBounds_toArray, List.set_cons_succ, List.set_cons_zero]
  refine wpQuiet_callW (.bool false) 14 _ _ [.agg #[.slice aSa na cSa, .slice aMa Na cMa, .int .i64 La], .agg #[.slice aSb nb cSb, .slice aMb Nb cMb, .int .i64 Lb]] (by rfl) rfl rfl Tryd.call14 C3.out ?_
  simp only [Act.put, List.setIfInBounds_toArray, List.set_cons_succ, List.set_cons_zero]
  repeat (first | go_big_quiet_skip | (go_big_quiet_want; go_big_quiet_op; first | go_big_quiet_on | (refine ⟨_, fun _ _ => rfl, ?_⟩; go_big_quiet_on)))
  refine wpQuiet_nil ?_
  intro z4 hz4
  have B4 := Lib.hid (show Below z2.heap.size z2 z4 from hz4)
  go_wp2_with fail
  go_ret
  exact ⟨rfl, HD.out _ B4.out⟩
theorem lsam_any (Sa Ma : List Int) (La : Int) (aSa aMa : Option Addr) (cSa cMa : Nat) (Sb Mb : List Int) (Lb : Int) (aSb aMb : Option Addr) (cSb cMb : Nat) (w : World) (ht : Pow10 w) (_ : Sa.length ≤ maxLen) (_ : Ma.length ≤ maxLen) (_ : (Lit.int .i64 La).wf = true) (hSa : IntsAt w aSa Sa) (hMa : IntsAt w aMa Ma) (_ : Sb.length ≤ maxLen) (_ : Mb.length ≤ maxLen) (_ : (Lit.int .i64 Lb).wf = true) (hSb : IntsAt w aSb Sb) (hMb : IntsAt w aMb Mb) :
    Calls Tryd.prog 3 #[.agg #[.slice aSa Sa.length cSa, .slice aMa Ma.length cMa, .int .i64 La], .agg #[.slice aSb Sb.length cSb, .slice aMb Mb.length cMb, .int .i64 Lb]] w fun e w' => e = .returned (.bool true) ∧ Below w.heap.size w w' := by
  cases hga : greatB Sa Ma La
  · cases hgb : greatB Sb Mb Lb
    · cases hva : vldB Sa Ma La
      · exact lsam_3 Sa Ma La aSa aMa cSa cMa Sb Mb Lb aSb aMb cSb cMb w ht hga hgb hva hSa hMa hSb hMb
      · cases hvb : vldB Sb Mb Lb
        · exact lsam_5 Sa Ma La aSa aMa cSa cMa Sb Mb Lb aSb aMb cSb cMb w ht hga hgb hva hvb hSa hMa hSb hMb
        · by_cases hC : codeOf Sa Ma La = codeOf Sb Mb Lb
          · exact lsam_4 Sa Ma La aSa aMa cSa cMa Sb Mb Lb aSb aMb cSb cMb w ht hga hgb hva hvb hC hSa hMa hSb hMb
          · exact lsam_4b Sa Ma La aSa aMa cSa cMa Sb Mb Lb aSb aMb cSb cMb w ht hga hgb hva hvb hC hSa hMa hSb hMb
    · exact lsam_2 Sa Ma La aSa aMa cSa cMa Sb Mb Lb aSb aMb cSb cMb w ht hga hgb
  · exact lsam_1 Sa Ma La aSa aMa cSa cMa Sb Mb Lb aSb aMb cSb cMb w ht hga
end Go.Proofs.YtmhhjchnjaefhaaDoor

