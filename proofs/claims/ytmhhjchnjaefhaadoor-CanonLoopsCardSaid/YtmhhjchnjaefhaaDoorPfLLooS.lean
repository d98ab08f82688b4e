/- CanonLoops: diagrams that differ in the number of loops, of crossings, or of positive crossings are never the same; for all diagrams (the law itself looks at 20 crossings at most). -/
import Derived.Test.YtmhhjchnjaefhaaDoorCards
import Derived.Test.YtmhhjchnjaefhaaDoorTie
import Derived.LaidMore
import Derived.SevenTiedAt
import Derived.Stop.Joined
import Derived.Stop.LaidErr
import Derived.Lib.LaidTab
import Derived.WalkKit
import Derived.WalkSpells
import Derived.WalkLawsBesides
import Derived.Deep.AppendSrc
import Derived.Deep.LoopGhost
import Derived.Deep.QuietTactic
import Derived.Deep.RegionWith
import Derived.Deep.DeepMust
import Derived.Deep.DeepFit
import Derived.BigQuiet
import Derived.Lib.Hide
import Derived.Outline
import Derived.Test.YtmhhjchnjaefhaaDoorRows
import Derived.ProofKit
import Derived.OpenShut
import Derived.ShutString
import Derived.ChangeOld
import Derived.Below
import Derived.Lib.SmallJoins
import Derived.Test.YtmhhjchnjaefhaaDoorProg
import Derived.Deep.Matrix
import Derived.Deep.DeepCutAuto
import Derived.Deep.RegionLaw
import Derived.Deep.RegionHeld3
import Derived.Lib.SliceRun
import Derived.Shelf.Strings.Builder1
import Derived.Shelf.Small.Wraps
import Derived.Shelf.Strings.BuilderF
import Derived.Shelf.Strings.BuilderK
import Derived.Shelf.Strconv.Itoa0
import Derived.Shelf.Strconv.Itoa1
import Derived.Shelf.LaysM
import Derived.Shelf.Strconv.Itoa2
import Derived.Shelf.Strconv.Itoa3
import Derived.Shelf.Slices.Equal
import Derived.Ground.Names2Prog
import Derived.Shelf.Slices.Clone
import Derived.Shelf.Slices.SearchI
import Derived.Shelf.Slices.Empties2
import Derived.Ground.SlgnProg
import Derived.Shelf.SlicesE.Clone
import Derived.Sort.OwnSortedInts
import Derived.Shelf.Small.Bits
import Derived.Shelf.Sort.Plain
import Derived.Shelf.Slices.Turned
import Derived.Shelf.Slices.CompactI
import Derived.Shelf.Slices.Cells
import Derived.Shelf.Slices.In.SortNone
import Derived.Lib.AppendZeros
import Derived.Deep.RegionHeld
import Derived.Lib.Builder
import Derived.Lib.AppendStr
import Derived.Lib.Walk
import Derived.Laws.Externs
import Derived.Lib.AppendIntMem
import Derived.Test.YtmhhjchnjaefhaaDoorSAa
import Derived.Test.YtmhhjchnjaefhaaDoorSAb
import Derived.Test.YtmhhjchnjaefhaaDoorSAc
import Derived.Test.YtmhhjchnjaefhaaDoorSAd
import Derived.Test.YtmhhjchnjaefhaaDoorSAe
import Derived.Test.YtmhhjchnjaefhaaDoorSAf
import Derived.Test.YtmhhjchnjaefhaaDoorSAg
import Derived.Test.YtmhhjchnjaefhaaDoorSAh
import Derived.Test.YtmhhjchnjaefhaaDoorSAi
import Derived.Test.YtmhhjchnjaefhaaDoorSAj
import Derived.Test.YtmhhjchnjaefhaaDoorSAk
import Derived.Test.YtmhhjchnjaefhaaDoorSAl
import Derived.Test.YtmhhjchnjaefhaaDoorSAm
import Derived.Test.YtmhhjchnjaefhaaDoorSAn
import Derived.Test.YtmhhjchnjaefhaaDoorSAo
import Derived.Test.YtmhhjchnjaefhaaDoorSAp
import Derived.Test.YtmhhjchnjaefhaaDoorSAq
namespace Go.Proofs.YtmhhjchnjaefhaaDoor
open Go Go.RowKit Go.ChangeShapes Go.WideShapes Go.ChangeAt Go.Joins
theorem canonLoops_k0 : (Rows.canonLoopsRow.wf (OpenSpec.ofChange Rows.canonLoopsSpec)) = true := by kernel_rfl
theorem canonLoops_k3 : (Tryd.f8.params.all (Tryd.prog.readableRec ·)) = true := by kernel_rfl
theorem canonLoops_k4 : (namedTie Tryd.prog Rows.canonLoopsRow.named Rows.canonLoopsSpec.vars) = true := by kernel_rfl
theorem canonLoops_k5 : (Rows.canonLoopsRow.stops == []) = true := by kernel_rfl
theorem canonLoops_k7 : (Rows.canonLoopsRow.knobs == []) = true := by kernel_rfl
theorem canonLoops_k9 : (Rows.canonLoopsRow.inPlace == Tryd.prog.inPlace 8) = true := by kernel_rfl
theorem canonLoops_k10 : (Rows.canonLoopsRow.unfollowed == Tryd.prog.unfollowed 8) = true := by kernel_rfl
theorem canonLoops_k11 : (Rows.canonLoopsRow.recurses == Tryd.prog.recurses 8) = true := by kernel_rfl
theorem canonLoops_k12 : (Rows.canonLoopsRow.named == Tryd.prog.varsNamed 8) = true := by kernel_rfl
theorem canonLoops_k13 : (Rows.canonLoopsRow.maps == (Tryd.f8.params.toList ++ Rows.canonLoopsSpec.plain.varTypes Tryd.prog).any (Tryd.prog.mapsRec ·)) = true := by kernel_rfl
theorem canonLoops_k14 : (Rows.canonLoopsRow.ifaces == (Tryd.f8.params.toList ++ Rows.canonLoopsSpec.plain.varTypes Tryd.prog).any (Tryd.prog.ifacesRec ·)) = true := by kernel_rfl
theorem canonLoops_k15 : (Rows.canonLoopsRow.mapsOut == Tryd.prog.mapsAmong Tryd.f8.resultTypes.toList) = true := by kernel_rfl
theorem canonLoops_k16 : (Rows.canonLoopsRow.loops == (Tryd.f8.params.toList ++ Rows.canonLoopsSpec.plain.varTypes Tryd.prog).any (Tryd.prog.loopsFrom ·)) = true := by kernel_rfl
theorem canonLoops_k17 : (Rows.canonLoopsRow.wideKeys == (Tryd.f8.params.toList ++ Rows.canonLoopsSpec.plain.varTypes Tryd.prog ++ Tryd.f8.resultTypes.toList).any (Tryd.prog.wideKeysFrom ·)) = true := by kernel_rfl
theorem canonLoops_k18 : (Rows.canonLoopsSpec.vars.all (Tryd.prog.varReadable ·)) = true := by kernel_rfl
theorem canonLoops_k19 : (Tryd.f8.resultTypes.all (fun t => Tryd.prog.readableRec t && decide (t < Tryd.prog.types.size))) = true := by kernel_rfl
theorem canonLoops_k20 : (Rows.canonLoopsRow.ifacesOut == Tryd.f8.resultTypes.toList.any (Tryd.prog.ifacesRec ·)) = true := by kernel_rfl
theorem canonLoops_k21 : (Rows.canonLoopsRow.loopsOut == Tryd.f8.resultTypes.toList.any (Tryd.prog.loopsFrom ·)) = true := by kernel_rfl
theorem canonLoops_k22 : (Rows.canonLoopsRow.plainKeys == Tryd.prog.plainKeys) = true := by rw [prog_keys]; rfl
theorem canonLoops_k23 : (Rows.canonLoopsRow.shortTexts.isNone) = true := by kernel_rfl
theorem canonLoops_k26 : (Rows.canonLoopsRow.lifted == Tryd.prog.liftsFinal) = true := by rw [prog_final]; rfl
theorem canonLoops_k27 : (Tryd.prog.make == some Rows.canonLoopsRow.make) = true := by rw [prog_make]; rfl
theorem canonLoops_k28 : (Rows.canonLoopsRow.kinds == (if Rows.canonLoopsRow.domain.isEmpty then [] else Tryd.f8.params.toList.map fun t => match Tryd.prog.underlying t with | some (.int k) => some k | _ => none)) = true := by kernel_rfl
theorem canonLoops_k29 : (Rows.canonLoopsRow.pinned == Rows.canonLoopsRow.pinnedBy) = true := by kernel_rfl
theorem canonLoops_k30 : (Rows.canonLoopsRow.veiled == (Tryd.f8.params.toList ++ Rows.canonLoopsSpec.plain.varTypes Tryd.prog ++ Tryd.f8.resultTypes.toList).any (Tryd.prog.veiledRec ·)) = true := by kernel_rfl
theorem canonLoops_k31 : (Rows.canonLoopsRow.veiledFits Tryd.prog Tryd.f8.params.toList (Tryd.f8.params.toList ++ Rows.canonLoopsSpec.plain.varTypes Tryd.prog ++ Tryd.f8.resultTypes.toList)) = true := by kernel_rfl
set_option maxRecDepth 100000 in
theorem canonLoops_closed : joinedFacts Tryd.prog 8 Tryd.f8 Rows.canonLoopsSpec Rows.canonLoopsRow = true := (and2 (and2 (and2 (and2 (and2 (and2 (and2 (and2 (and2 (and2 (and2 (and2 (and2 (and2 (and2 (and2 (and2 (and2 (and2 (and2 (and2 (and2 (and2 (and2 (and2 (and2 (and2 (and2 (and2 (and2 (and2 canonLoops_k0 laidOut) prog_maps) canonLoops_k3) canonLoops_k4) canonLoops_k5) prog_stops) canonLoops_k7) prog_knobs) canonLoops_k9) canonLoops_k10) canonLoops_k11) canonLoops_k12) canonLoops_k13) canonLoops_k14) canonLoops_k15) canonLoops_k16) canonLoops_k17) canonLoops_k18) canonLoops_k19) canonLoops_k20) canonLoops_k21) canonLoops_k22) canonLoops_k23) prog_heard) prog_enter) canonLoops_k26) canonLoops_k27) canonLoops_k28) canonLoops_k29) canonLoops_k30) canonLoops_k31)
theorem canonLoops_named : Tryd.prog.funcNamed Rows.canonLoopsRow.func = some 8 := by kernel_rfl
theorem canonLoops_inst : Tryd.f8.isInstance Tryd.prog Rows.canonLoopsRow.origin Rows.canonLoopsRow.targs := of_decide_eq_true (by kernel_rfl)
theorem canonLoops_wrap : Tryd.f8.isWrapper Tryd.prog Rows.canonLoopsRow.wrapper Rows.canonLoopsRow.mainSum := by unfold Func.isWrapper; first | (rw [if_pos (by decide +kernel)]; kernel_rfl) | (rw [if_neg (by decide +kernel)]; exact ⟨rfl, rfl⟩)
set_option maxRecDepth 100000 in
theorem canonLoops_door (os : Os) (args : Array Value) : laidMetH Tryd.prog Rows.canonLoopsRow.laid ((World.doorLaid Tryd.prog 400 os).forCall (fun _ _ => 0) ⟨#[], args, []⟩).memory :=
  laidMetH_of_parts3 (fuel := 8) (laidMet_of_run' 8 (by kernel_rfl) (by kernel_rfl)) (by kernel_rfl) (by kernel_rfl)
set_option maxRecDepth 100000 in
theorem canonLoops_lifted (os : Os) (started : os.Started) (H : Type) (enc : TypeId × Value → H) :
    ReturnsInHanded {} Tryd.checked os 8 .any (fun w args => (Rows.canonLoopsSpec.pre enc Tryd.prog Tryd.f8 [] false w args ∧ laidMetH Tryd.prog Rows.canonLoopsRow.laid w) ∧ sizedMet enc Tryd.prog Tryd.f8 (OpenSpec.ofChange Rows.canonLoopsSpec) false w args) (Rows.canonLoopsSpec.post enc Tryd.prog Tryd.f8 false true false false) := by
  refine returnsInHanded_of_change_and (C := Tryd.checked) (X := fun w _ => laidMetH Tryd.prog Rows.canonLoopsRow.laid w) (fun _ _ _ hh h => h.of_heap hh) own started (by kernel_rfl) Tryd.func8
    (ChangeSpec.witness_shaped (enc := enc) (C := Tryd.checked) (os := os) (X := fun w _ => laidMetH Tryd.prog Rows.canonLoopsRow.laid w) false (World.doorLaid Tryd.prog 400 os) #[.agg #[.slice none 0 0, .slice none 0 0, .int .i64 0], .agg #[.slice none 0 0, .slice none 0 0, .int .i64 0]] 8 rfl (World.shaped_of_RefB (by kernel_rfl) (by kernel_rfl)) (by kernel_rfl) (by kernel_rfl) (by kernel_rfl) (canonLoops_door os _)) ?_
  intro W base args ds gs before hval0 hW hcnd _ hL _
  have hval : ∀ (j : Nat) t v, Tryd.f8.params[j]? = some t → args[j]? = some v → Value.okWide Tryd.prog W .any base t v := hval0
  have hW' := hW
  obtain ⟨p, q, hA0, hV, rfl, hfz, hnd⟩ := hW
  have hA : DataW.TrodAll enc Tryd.prog W 0 (fun _ => true) true Tryd.f8.params.toList args.toList ds p := hA0
  rw [Tryd.params8] at hA hval
  obtain ⟨v0, vs0, d0, ds0, p0, q0, hargs, rfl, rfl, h0, r0⟩ := trodAll_cons hA
  obtain ⟨v1, vs1, d1, ds1, p1, q1, rfl, rfl, rfl, h1, r1⟩ := trodAll_cons r0
  obtain ⟨rfl, rfl, rfl⟩ := trodAll_nil r1
  obtain rfl : args = #[v0, v1] := by cases args; simp_all
  obtain ⟨rfl, rfl⟩ := trodVars_none hV
  obtain ⟨S0, M0, L0, aS0, aM0, cS0, cM0, rfl, hS0, hM0, lS0, lM0, wL0⟩ := open_diag (hval 0 24 v0 rfl rfl) h0
  have k0 := h0
  have lt0 : ∀ x ∈ p0, x.block < W.heap.size := by obtain ⟨m, hm⟩ := k0; exact DataW.trod_lt m _ _ _ hm
  obtain ⟨S1, M1, L1, aS1, aM1, cS1, cM1, rfl, hS1, hM1, lS1, lM1, wL1⟩ := open_diag (hval 1 24 v1 rfl rfl) h1
  have k1 := h1
  have lt1 : ∀ x ∈ p1, x.block < W.heap.size := by obtain ⟨m, hm⟩ := k1; exact DataW.trod_lt m _ _ _ hm
  clear hA0 hval0
  have hL2 : laidMet Tryd.prog Rows.canonLoopsRow.laid W := hL
  have ht : Pow10 W := Lib.tabIs_of_head (g := 0) (t := 93) (e := 85) (n := 20) (by kernel_rfl) (by kernel_rfl) Tryd.underlying93 Tryd.underlying85 (by kernel_rfl) (by kernel_rfl) hL2.tail.tail
  refine (lloo_any S0 M0 L0 aS0 aM0 cS0 cM0 S1 M1 L1 aS1 aM1 cS1 cM1 W ht lS0 lM0 wL0 hS0 hM0 lS1 lM1 wL1 hS1 hM1).mono fun e W' ⟨he, bel⟩ => ?_
  subst he
  exact ⟨_, rfl, _, _, _, [], _, [], hW', trodAll_mk1 (shut_bool Tryd.underlying4 _), (trodAll_cons_mk (Below.trod laidOut (by kernel_rfl) (of_decide_eq_true (by kernel_rfl)) k0 bel lt0) (trodAll_cons_mk (Below.trod laidOut (by kernel_rfl) (of_decide_eq_true (by kernel_rfl)) k1 bel lt1) trodAll_mk0)), rfl, bel.frame _, fun h => by cases h⟩
theorem canonLoops_row : Rows.CanonLoopsSaid :=
  OpenClaim.holds_of_wide 8 Tryd.f8 rfl rfl rfl rfl rfl rfl rfl ⟨rfl, rfl, rfl, rfl, rfl⟩ rfl rfl rfl rfl rfl canonLoops_named Tryd.func8 canonLoops_closed canonLoops_inst canonLoops_wrap
    (fun os started H enc _ => canonLoops_lifted os started H enc)
theorem canonLoops_holds : Rows.CanonLoopsCardSaid :=
  Claim7.holds_tied_plain_at .later [] [.data, .data, .data] true (true, "ecca1c5326bbd5663b8762b21df597a0e1f6b3c513ffeef2692957e3ec8b1300") false
    canonLoops_row (fun _ h => by cases h) (by kernel_rfl) (fun _ h => by cases h) canonLoops_row_tie rfl ⟨rfl, rfl⟩ (by kernel_rfl) rfl
    (fun f fn hf hfn => by
      obtain rfl : f = 8 := Option.some.inj (canonLoops_named.symm.trans hf) |>.symm
      obtain rfl : fn = Tryd.f8 := (Option.some.inj (Tryd.func8.symm.trans hfn)).symm
      exact ⟨by kernel_rfl, fun j t ht => by
        rw [Tryd.params8] at ht
        have hm : t ∈ [24] := by
          have := Array.mem_of_getElem? ht
          simpa using this
        have hall : ([24].all fun u => !Tryd.prog.wantsStandIn u) = true := by kernel_rfl
        exact (show Tryd.prog.wantsStandIn t = false by simpa using List.all_eq_true.1 hall t hm)⟩)
    (by kernel_rfl)
#print axioms canonLoops_holds
end Go.Proofs.YtmhhjchnjaefhaaDoor

