/- CanonComplete: two diagrams have the same code if and only if some order of the crossings renumbers one into the other; for every two diagrams (the law itself looks at 5 crossings at most). -/
import Derived.Test.YtmhhjchnjaefhaaDoorCards
import Derived.Test.YtmhhjchnjaefhaaDoorTie
import Derived.LaidMore
import Derived.SevenTiedAt
import Derived.Stop.Joined
import Derived.Stop.LaidErr
import Derived.Lib.LaidTab
import Derived.WalkKit
import Derived.WalkSpells
import Derived.WalkLawsBesides
import Derived.Deep.AppendSrc
import Derived.Deep.LoopGhost
import Derived.Deep.QuietTactic
import Derived.Deep.RegionWith
import Derived.Deep.DeepMust
import Derived.Deep.DeepFit
import Derived.BigQuiet
import Derived.Lib.Hide
import Derived.Outline
import Derived.Test.YtmhhjchnjaefhaaDoorRows
import Derived.ProofKit
import Derived.OpenShut
import Derived.ShutString
import Derived.ChangeOld
import Derived.Below
import Derived.Lib.SmallJoins
import Derived.Test.YtmhhjchnjaefhaaDoorProg
import Derived.Deep.Matrix
import Derived.Deep.DeepCutAuto
import Derived.Deep.RegionLaw
import Derived.Deep.RegionHeld3
import Derived.Lib.SliceRun
import Derived.Shelf.Strings.Builder1
import Derived.Shelf.Small.Wraps
import Derived.Shelf.Strings.BuilderF
import Derived.Shelf.Strings.BuilderK
import Derived.Shelf.Strconv.Itoa0
import Derived.Shelf.Strconv.Itoa1
import Derived.Shelf.LaysM
import Derived.Shelf.Strconv.Itoa2
import Derived.Shelf.Strconv.Itoa3
import Derived.Shelf.Slices.Equal
import Derived.Ground.Names2Prog
import Derived.Shelf.Slices.Clone
import Derived.Shelf.Slices.SearchI
import Derived.Shelf.Slices.Empties2
import Derived.Ground.SlgnProg
import Derived.Shelf.SlicesE.Clone
import Derived.Sort.OwnSortedInts
import Derived.Shelf.Small.Bits
import Derived.Shelf.Sort.Plain
import Derived.Shelf.Slices.Turned
import Derived.Shelf.Slices.CompactI
import Derived.Shelf.Slices.Cells
import Derived.Shelf.Slices.In.SortNone
import Derived.Lib.AppendZeros
import Derived.Deep.RegionHeld
import Derived.Lib.Builder
import Derived.Lib.AppendStr
import Derived.Lib.Walk
import Derived.Laws.Externs
import Derived.Lib.AppendIntMem
import Derived.Test.YtmhhjchnjaefhaaDoorVAa
import Derived.Test.YtmhhjchnjaefhaaDoorVAb
import Derived.Test.YtmhhjchnjaefhaaDoorVAc
import Derived.Test.YtmhhjchnjaefhaaDoorVAd
import Derived.Test.YtmhhjchnjaefhaaDoorVAe
import Derived.Test.YtmhhjchnjaefhaaDoorVAf
import Derived.Test.YtmhhjchnjaefhaaDoorVAg
import Derived.Test.YtmhhjchnjaefhaaDoorVAh
import Derived.Test.YtmhhjchnjaefhaaDoorVAi
import Derived.Test.YtmhhjchnjaefhaaDoorVAj
import Derived.Test.YtmhhjchnjaefhaaDoorVAk
import Derived.Test.YtmhhjchnjaefhaaDoorVAl
import Derived.Test.YtmhhjchnjaefhaaDoorVAm
import Derived.Test.YtmhhjchnjaefhaaDoorVAn
import Derived.Test.YtmhhjchnjaefhaaDoorVAo
import Derived.Test.YtmhhjchnjaefhaaDoorVAp
import Derived.Test.YtmhhjchnjaefhaaDoorVAq
import Derived.Test.YtmhhjchnjaefhaaDoorVAr
import Derived.Test.YtmhhjchnjaefhaaDoorVAs
import Derived.Test.YtmhhjchnjaefhaaDoorVAt
namespace Go.Proofs.YtmhhjchnjaefhaaDoor
open Go Go.RowKit Go.ChangeShapes Go.WideShapes Go.ChangeAt Go.Joins
theorem canonComplete_k0 : (Rows.canonCompleteRow.wf (OpenSpec.ofChange Rows.canonCompleteSpec)) = true := by kernel_rfl
theorem canonComplete_k3 : (Tryd.f5.params.all (Tryd.prog.readableRec ·)) = true := by kernel_rfl
theorem canonComplete_k4 : (namedTie Tryd.prog Rows.canonCompleteRow.named Rows.canonCompleteSpec.vars) = true := by kernel_rfl
theorem canonComplete_k5 : (Rows.canonCompleteRow.stops == []) = true := by kernel_rfl
theorem canonComplete_k7 : (Rows.canonCompleteRow.knobs == []) = true := by kernel_rfl
theorem canonComplete_k9 : (Rows.canonCompleteRow.inPlace == Tryd.prog.inPlace 5) = true := by kernel_rfl
theorem canonComplete_k10 : (Rows.canonCompleteRow.unfollowed == Tryd.prog.unfollowed 5) = true := by kernel_rfl
theorem canonComplete_k11 : (Rows.canonCompleteRow.recurses == Tryd.prog.recurses 5) = true := by kernel_rfl
theorem canonComplete_k12 : (Rows.canonCompleteRow.named == Tryd.prog.varsNamed 5) = true := by kernel_rfl
theorem canonComplete_k13 : (Rows.canonCompleteRow.maps == (Tryd.f5.params.toList ++ Rows.canonCompleteSpec.plain.varTypes Tryd.prog).any (Tryd.prog.mapsRec ·)) = true := by kernel_rfl
theorem canonComplete_k14 : (Rows.canonCompleteRow.ifaces == (Tryd.f5.params.toList ++ Rows.canonCompleteSpec.plain.varTypes Tryd.prog).any (Tryd.prog.ifacesRec ·)) = true := by kernel_rfl
theorem canonComplete_k15 : (Rows.canonCompleteRow.mapsOut == Tryd.prog.mapsAmong Tryd.f5.resultTypes.toList) = true := by kernel_rfl
theorem canonComplete_k16 : (Rows.canonCompleteRow.loops == (Tryd.f5.params.toList ++ Rows.canonCompleteSpec.plain.varTypes Tryd.prog).any (Tryd.prog.loopsFrom ·)) = true := by kernel_rfl
theorem canonComplete_k17 : (Rows.canonCompleteRow.wideKeys == (Tryd.f5.params.toList ++ Rows.canonCompleteSpec.plain.varTypes Tryd.prog ++ Tryd.f5.resultTypes.toList).any (Tryd.prog.wideKeysFrom ·)) = true := by kernel_rfl
theorem canonComplete_k18 : (Rows.canonCompleteSpec.vars.all (Tryd.prog.varReadable ·)) = true := by kernel_rfl
theorem canonComplete_k19 : (Tryd.f5.resultTypes.all (fun t => Tryd.prog.readableRec t && decide (t < Tryd.prog.types.size))) = true := by kernel_rfl
theorem canonComplete_k20 : (Rows.canonCompleteRow.ifacesOut == Tryd.f5.resultTypes.toList.any (Tryd.prog.ifacesRec ·)) = true := by kernel_rfl
theorem canonComplete_k21 : (Rows.canonCompleteRow.loopsOut == Tryd.f5.resultTypes.toList.any (Tryd.prog.loopsFrom ·)) = true := by kernel_rfl
theorem canonComplete_k22 : (Rows.canonCompleteRow.plainKeys == Tryd.prog.plainKeys) = true := by rw [prog_keys]; rfl
theorem canonComplete_k23 : (Rows.canonCompleteRow.shortTexts.isNone) = true := by kernel_rfl
theorem canonComplete_k26 : (Rows.canonCompleteRow.lifted == Tryd.prog.liftsFinal) = true := by rw [prog_final]; rfl
theorem canonComplete_k27 : (Tryd.prog.make == some Rows.canonCompleteRow.make) = true := by rw [prog_make]; rfl
theorem canonComplete_k28 : (Rows.canonCompleteRow.kinds == (if Rows.canonCompleteRow.domain.isEmpty then [] else Tryd.f5.params.toList.map fun t => match Tryd.prog.underlying t with | some (.int k) => some k | _ => none)) = true := by kernel_rfl
theorem canonComplete_k29 : (Rows.canonCompleteRow.pinned == Rows.canonCompleteRow.pinnedBy) = true := by kernel_rfl
theorem canonComplete_k30 : (Rows.canonCompleteRow.veiled == (Tryd.f5.params.toList ++ Rows.canonCompleteSpec.plain.varTypes Tryd.prog ++ Tryd.f5.resultTypes.toList).any (Tryd.prog.veiledRec ·)) = true := by kernel_rfl
theorem canonComplete_k31 : (Rows.canonCompleteRow.veiledFits Tryd.prog Tryd.f5.params.toList (Tryd.f5.params.toList ++ Rows.canonCompleteSpec.plain.varTypes Tryd.prog ++ Tryd.f5.resultTypes.toList)) = true := by kernel_rfl
set_option maxRecDepth 100000 in
theorem canonComplete_closed : joinedFacts Tryd.prog 5 Tryd.f5 Rows.canonCompleteSpec Rows.canonCompleteRow = true := (and2 (and2 (and2 (and2 (and2 (and2 (and2 (and2 (and2 (and2 (and2 (and2 (and2 (and2 (and2 (and2 (and2 (and2 (and2 (and2 (and2 (and2 (and2 (and2 (and2 (and2 (and2 (and2 (and2 (and2 (and2 canonComplete_k0 laidOut) prog_maps) canonComplete_k3) canonComplete_k4) canonComplete_k5) prog_stops) canonComplete_k7) prog_knobs) canonComplete_k9) canonComplete_k10) canonComplete_k11) canonComplete_k12) canonComplete_k13) canonComplete_k14) canonComplete_k15) canonComplete_k16) canonComplete_k17) canonComplete_k18) canonComplete_k19) canonComplete_k20) canonComplete_k21) canonComplete_k22) canonComplete_k23) prog_heard) prog_enter) canonComplete_k26) canonComplete_k27) canonComplete_k28) canonComplete_k29) canonComplete_k30) canonComplete_k31)
theorem canonComplete_named : Tryd.prog.funcNamed Rows.canonCompleteRow.func = some 5 := by kernel_rfl
theorem canonComplete_inst : Tryd.f5.isInstance Tryd.prog Rows.canonCompleteRow.origin Rows.canonCompleteRow.targs := of_decide_eq_true (by kernel_rfl)
theorem canonComplete_wrap : Tryd.f5.isWrapper Tryd.prog Rows.canonCompleteRow.wrapper Rows.canonCompleteRow.mainSum := by unfold Func.isWrapper; first | (rw [if_pos (by decide +kernel)]; kernel_rfl) | (rw [if_neg (by decide +kernel)]; exact ⟨rfl, rfl⟩)
set_option maxRecDepth 100000 in
theorem canonComplete_door (os : Os) (args : Array Value) : laidMetH Tryd.prog Rows.canonCompleteRow.laid ((World.doorLaid Tryd.prog 400 os).forCall (fun _ _ => 0) ⟨#[], args, []⟩).memory :=
  laidMetH_of_parts3 (fuel := 8) (laidMet_of_run' 8 (by kernel_rfl) (by kernel_rfl)) (by kernel_rfl) (by kernel_rfl)
set_option maxRecDepth 100000 in
theorem canonComplete_lifted (os : Os) (started : os.Started) (H : Type) (enc : TypeId × Value → H) :
    ReturnsInHanded {} Tryd.checked os 5 .any (fun w args => (Rows.canonCompleteSpec.pre enc Tryd.prog Tryd.f5 [] false w args ∧ laidMetH Tryd.prog Rows.canonCompleteRow.laid w) ∧ sizedMet enc Tryd.prog Tryd.f5 (OpenSpec.ofChange Rows.canonCompleteSpec) false w args) (Rows.canonCompleteSpec.post enc Tryd.prog Tryd.f5 false true false false) := by
  refine returnsInHanded_of_change_and (C := Tryd.checked) (X := fun w _ => laidMetH Tryd.prog Rows.canonCompleteRow.laid w) (fun _ _ _ hh h => h.of_heap hh) own started (by kernel_rfl) Tryd.func5
    (ChangeSpec.witness_shaped (enc := enc) (C := Tryd.checked) (os := os) (X := fun w _ => laidMetH Tryd.prog Rows.canonCompleteRow.laid w) false (World.doorLaid Tryd.prog 400 os) #[.agg #[.slice none 0 0, .slice none 0 0, .int .i64 0], .agg #[.slice none 0 0, .slice none 0 0, .int .i64 0]] 8 rfl (World.shaped_of_RefB (by kernel_rfl) (by kernel_rfl)) (by kernel_rfl) (by kernel_rfl) (by kernel_rfl) (canonComplete_door os _)) ?_
  intro W base args ds gs before hval0 hW hcnd _ hL _
  have hval : ∀ (j : Nat) t v, Tryd.f5.params[j]? = some t → args[j]? = some v → Value.okWide Tryd.prog W .any base t v := hval0
  have hW' := hW
  obtain ⟨p, q, hA0, hV, rfl, hfz, hnd⟩ := hW
  have hA : DataW.TrodAll enc Tryd.prog W 0 (fun _ => true) true Tryd.f5.params.toList args.toList ds p := hA0
  rw [Tryd.params5] at hA hval
  obtain ⟨v0, vs0, d0, ds0, p0, q0, hargs, rfl, rfl, h0, r0⟩ := trodAll_cons hA
  obtain ⟨v1, vs1, d1, ds1, p1, q1, rfl, rfl, rfl, h1, r1⟩ := trodAll_cons r0
  obtain ⟨rfl, rfl, rfl⟩ := trodAll_nil r1
  obtain rfl : args = #[v0, v1] := by cases args; simp_all
  obtain ⟨rfl, rfl⟩ := trodVars_none hV
  obtain ⟨S0, M0, L0, aS0, aM0, cS0, cM0, rfl, hS0, hM0, lS0, lM0, wL0⟩ := open_diag (hval 0 24 v0 rfl rfl) h0
  have k0 := h0
  have lt0 : ∀ x ∈ p0, x.block < W.heap.size := by obtain ⟨m, hm⟩ := k0; exact DataW.trod_lt m _ _ _ hm
  obtain ⟨S1, M1, L1, aS1, aM1, cS1, cM1, rfl, hS1, hM1, lS1, lM1, wL1⟩ := open_diag (hval 1 24 v1 rfl rfl) h1
  have k1 := h1
  have lt1 : ∀ x ∈ p1, x.block < W.heap.size := by obtain ⟨m, hm⟩ := k1; exact DataW.trod_lt m _ _ _ hm
  clear hA0 hval0
  have hL2 : laidMet Tryd.prog Rows.canonCompleteRow.laid W := hL
  have ht : Pow10 W := Lib.tabIs_of_head (g := 0) (t := 93) (e := 85) (n := 20) (by kernel_rfl) (by kernel_rfl) Tryd.underlying93 Tryd.underlying85 (by kernel_rfl) (by kernel_rfl) hL2.tail.tail
  refine (lcmp_any S0 M0 L0 aS0 aM0 cS0 cM0 S1 M1 L1 aS1 aM1 cS1 cM1 W ht lS0 lM0 wL0 hS0 hM0 lS1 lM1 wL1 hS1 hM1).mono fun e W' ⟨he, bel⟩ => ?_
  subst he
  exact ⟨_, rfl, _, _, _, [], _, [], hW', trodAll_mk1 (shut_bool Tryd.underlying4 _), (trodAll_cons_mk (Below.trod laidOut (by kernel_rfl) (of_decide_eq_true (by kernel_rfl)) k0 bel lt0) (trodAll_cons_mk (Below.trod laidOut (by kernel_rfl) (of_decide_eq_true (by kernel_rfl)) k1 bel lt1) trodAll_mk0)), rfl, bel.frame _, fun h => by cases h⟩
theorem canonComplete_row : Rows.CanonCompleteSaid :=
  OpenClaim.holds_of_wide 5 Tryd.f5 rfl rfl rfl rfl rfl rfl rfl ⟨rfl, rfl, rfl, rfl, rfl⟩ rfl rfl rfl rfl rfl canonComplete_named Tryd.func5 canonComplete_closed canonComplete_inst canonComplete_wrap
    (fun os started H enc _ => canonComplete_lifted os started H enc)
theorem canonComplete_holds : Rows.CanonCompleteCardSaid :=
  Claim7.holds_tied_plain_at .later [] [.data, .data, .data] true (true, "ecca1c5326bbd5663b8762b21df597a0e1f6b3c513ffeef2692957e3ec8b1300") false
    canonComplete_row (fun _ h => by cases h) (by kernel_rfl) (fun _ h => by cases h) canonComplete_row_tie rfl ⟨rfl, rfl⟩ (by kernel_rfl) rfl
    (fun f fn hf hfn => by
      obtain rfl : f = 5 := Option.some.inj (canonComplete_named.symm.trans hf) |>.symm
      obtain rfl : fn = Tryd.f5 := (Option.some.inj (Tryd.func5.symm.trans hfn)).symm
      exact ⟨by kernel_rfl, fun j t ht => by
        rw [Tryd.params5] at ht
        have hm : t ∈ [24] := by
          have := Array.mem_of_getElem? ht
          simpa using this
        have hall : ([24].all fun u => !Tryd.prog.wantsStandIn u) = true := by kernel_rfl
        exact (show Tryd.prog.wantsStandIn t = false by simpa using List.all_eq_true.1 hall t hm)⟩)
    (by kernel_rfl)
#print axioms canonComplete_holds
end Go.Proofs.YtmhhjchnjaefhaaDoor

