/- CanonCodes: Code, Key and Form agree with the reference for every diagram (the law itself looks at 20 crossings at most). -/
import Derived.Test.YtmhhjchnjaefhaaDoorCards
import Derived.Test.YtmhhjchnjaefhaaDoorTie
import Derived.LaidMore
import Derived.SevenTiedAt
import Derived.Stop.Joined
import Derived.Stop.LaidErr
import Derived.Lib.LaidTab
import Derived.WalkKit
import Derived.WalkSpells
import Derived.WalkLawsBesides
import Derived.Deep.AppendSrc
import Derived.Deep.LoopGhost
import Derived.Deep.QuietTactic
import Derived.Deep.RegionWith
import Derived.Deep.DeepMust
import Derived.Deep.DeepFit
import Derived.BigQuiet
import Derived.Lib.Hide
import Derived.Outline
import Derived.Test.YtmhhjchnjaefhaaDoorRows
import Derived.ProofKit
import Derived.OpenShut
import Derived.ShutString
import Derived.ChangeOld
import Derived.Below
import Derived.Lib.SmallJoins
import Derived.Test.YtmhhjchnjaefhaaDoorProg
import Derived.Deep.Matrix
import Derived.Deep.DeepCutAuto
import Derived.Deep.RegionLaw
import Derived.Deep.RegionHeld3
import Derived.Lib.SliceRun
import Derived.Shelf.Strings.Builder1
import Derived.Shelf.Small.Wraps
import Derived.Shelf.Strings.BuilderF
import Derived.Shelf.Strings.BuilderK
import Derived.Shelf.Strconv.Itoa0
import Derived.Shelf.Strconv.Itoa1
import Derived.Shelf.LaysM
import Derived.Shelf.Strconv.Itoa2
import Derived.Shelf.Strconv.Itoa3
import Derived.Shelf.Slices.Equal
import Derived.Ground.Names2Prog
import Derived.Shelf.Slices.Clone
import Derived.Shelf.Slices.SearchI
import Derived.Shelf.Slices.Empties2
import Derived.Ground.SlgnProg
import Derived.Shelf.SlicesE.Clone
import Derived.Sort.OwnSortedInts
import Derived.Shelf.Small.Bits
import Derived.Shelf.Sort.Plain
import Derived.Shelf.Slices.Turned
import Derived.Shelf.Slices.CompactI
import Derived.Shelf.Slices.Cells
import Derived.Shelf.Slices.In.SortNone
import Derived.Lib.AppendZeros
import Derived.Deep.RegionHeld
import Derived.Lib.Builder
import Derived.Lib.AppendStr
import Derived.Lib.Walk
import Derived.Laws.Externs
import Derived.Lib.AppendIntMem
import Derived.Laws.Concat
import Derived.Test.YtmhhjchnjaefhaaDoorUAa
import Derived.Test.YtmhhjchnjaefhaaDoorUAb
import Derived.Test.YtmhhjchnjaefhaaDoorUAc
import Derived.Test.YtmhhjchnjaefhaaDoorUAd
import Derived.Test.YtmhhjchnjaefhaaDoorUAe
import Derived.Test.YtmhhjchnjaefhaaDoorUAf
import Derived.Test.YtmhhjchnjaefhaaDoorUAg
import Derived.Test.YtmhhjchnjaefhaaDoorUAh
import Derived.Test.YtmhhjchnjaefhaaDoorUAi
import Derived.Test.YtmhhjchnjaefhaaDoorUAj
import Derived.Test.YtmhhjchnjaefhaaDoorUAk
import Derived.Test.YtmhhjchnjaefhaaDoorUAl
import Derived.Test.YtmhhjchnjaefhaaDoorUAm
import Derived.Test.YtmhhjchnjaefhaaDoorUAn
import Derived.Test.YtmhhjchnjaefhaaDoorUAo
import Derived.Test.YtmhhjchnjaefhaaDoorUAp
import Derived.Test.YtmhhjchnjaefhaaDoorUAq
import Derived.Test.YtmhhjchnjaefhaaDoorUAr
import Derived.Test.YtmhhjchnjaefhaaDoorUAs
import Derived.Test.YtmhhjchnjaefhaaDoorUAt
import Derived.Test.YtmhhjchnjaefhaaDoorUAu
import Derived.Test.YtmhhjchnjaefhaaDoorUAv
import Derived.Test.YtmhhjchnjaefhaaDoorUAw
namespace Go.Proofs.YtmhhjchnjaefhaaDoor
open Go Go.RowKit Go.ChangeShapes Go.WideShapes Go.ChangeAt Go.Joins
theorem canonCodes_k0 : (Rows.canonCodesRow.wf (OpenSpec.ofChange Rows.canonCodesSpec)) = true := by kernel_rfl
theorem canonCodes_k3 : (Tryd.f6.params.all (Tryd.prog.readableRec ·)) = true := by kernel_rfl
theorem canonCodes_k4 : (namedTie Tryd.prog Rows.canonCodesRow.named Rows.canonCodesSpec.vars) = true := by kernel_rfl
theorem canonCodes_k5 : (Rows.canonCodesRow.stops == []) = true := by kernel_rfl
theorem canonCodes_k7 : (Rows.canonCodesRow.knobs == []) = true := by kernel_rfl
theorem canonCodes_k9 : (Rows.canonCodesRow.inPlace == Tryd.prog.inPlace 6) = true := by kernel_rfl
theorem canonCodes_k10 : (Rows.canonCodesRow.unfollowed == Tryd.prog.unfollowed 6) = true := by kernel_rfl
theorem canonCodes_k11 : (Rows.canonCodesRow.recurses == Tryd.prog.recurses 6) = true := by kernel_rfl
theorem canonCodes_k12 : (Rows.canonCodesRow.named == Tryd.prog.varsNamed 6) = true := by kernel_rfl
theorem canonCodes_k13 : (Rows.canonCodesRow.maps == (Tryd.f6.params.toList ++ Rows.canonCodesSpec.plain.varTypes Tryd.prog).any (Tryd.prog.mapsRec ·)) = true := by kernel_rfl
theorem canonCodes_k14 : (Rows.canonCodesRow.ifaces == (Tryd.f6.params.toList ++ Rows.canonCodesSpec.plain.varTypes Tryd.prog).any (Tryd.prog.ifacesRec ·)) = true := by kernel_rfl
theorem canonCodes_k15 : (Rows.canonCodesRow.mapsOut == Tryd.prog.mapsAmong Tryd.f6.resultTypes.toList) = true := by kernel_rfl
theorem canonCodes_k16 : (Rows.canonCodesRow.loops == (Tryd.f6.params.toList ++ Rows.canonCodesSpec.plain.varTypes Tryd.prog).any (Tryd.prog.loopsFrom ·)) = true := by kernel_rfl
theorem canonCodes_k17 : (Rows.canonCodesRow.wideKeys == (Tryd.f6.params.toList ++ Rows.canonCodesSpec.plain.varTypes Tryd.prog ++ Tryd.f6.resultTypes.toList).any (Tryd.prog.wideKeysFrom ·)) = true := by kernel_rfl
theorem canonCodes_k18 : (Rows.canonCodesSpec.vars.all (Tryd.prog.varReadable ·)) = true := by kernel_rfl
theorem canonCodes_k19 : (Tryd.f6.resultTypes.all (fun t => Tryd.prog.readableRec t && decide (t < Tryd.prog.types.size))) = true := by kernel_rfl
theorem canonCodes_k20 : (Rows.canonCodesRow.ifacesOut == Tryd.f6.resultTypes.toList.any (Tryd.prog.ifacesRec ·)) = true := by kernel_rfl
theorem canonCodes_k21 : (Rows.canonCodesRow.loopsOut == Tryd.f6.resultTypes.toList.any (Tryd.prog.loopsFrom ·)) = true := by kernel_rfl
theorem canonCodes_k22 : (Rows.canonCodesRow.plainKeys == Tryd.prog.plainKeys) = true := by rw [prog_keys]; rfl
theorem canonCodes_k23 : (Rows.canonCodesRow.shortTexts.isNone) = true := by kernel_rfl
theorem canonCodes_k26 : (Rows.canonCodesRow.lifted == Tryd.prog.liftsFinal) = true := by rw [prog_final]; rfl
theorem canonCodes_k27 : (Tryd.prog.make == some Rows.canonCodesRow.make) = true := by rw [prog_make]; rfl
theorem canonCodes_k28 : (Rows.canonCodesRow.kinds == (if Rows.canonCodesRow.domain.isEmpty then [] else Tryd.f6.params.toList.map fun t => match Tryd.prog.underlying t with | some (.int k) => some k | _ => none)) = true := by kernel_rfl
theorem canonCodes_k29 : (Rows.canonCodesRow.pinned == Rows.canonCodesRow.pinnedBy) = true := by kernel_rfl
theorem canonCodes_k30 : (Rows.canonCodesRow.veiled == (Tryd.f6.params.toList ++ Rows.canonCodesSpec.plain.varTypes Tryd.prog ++ Tryd.f6.resultTypes.toList).any (Tryd.prog.veiledRec ·)) = true := by kernel_rfl
theorem canonCodes_k31 : (Rows.canonCodesRow.veiledFits Tryd.prog Tryd.f6.params.toList (Tryd.f6.params.toList ++ Rows.canonCodesSpec.plain.varTypes Tryd.prog ++ Tryd.f6.resultTypes.toList)) = true := by kernel_rfl
set_option maxRecDepth 100000 in
theorem canonCodes_closed : joinedFacts Tryd.prog 6 Tryd.f6 Rows.canonCodesSpec Rows.canonCodesRow = true := (and2 (and2 (and2 (and2 (and2 (and2 (and2 (and2 (and2 (and2 (and2 (and2 (and2 (and2 (and2 (and2 (and2 (and2 (and2 (and2 (and2 (and2 (and2 (and2 (and2 (and2 (and2 (and2 (and2 (and2 (and2 canonCodes_k0 laidOut) prog_maps) canonCodes_k3) canonCodes_k4) canonCodes_k5) prog_stops) canonCodes_k7) prog_knobs) canonCodes_k9) canonCodes_k10) canonCodes_k11) canonCodes_k12) canonCodes_k13) canonCodes_k14) canonCodes_k15) canonCodes_k16) canonCodes_k17) canonCodes_k18) canonCodes_k19) canonCodes_k20) canonCodes_k21) canonCodes_k22) canonCodes_k23) prog_heard) prog_enter) canonCodes_k26) canonCodes_k27) canonCodes_k28) canonCodes_k29) canonCodes_k30) canonCodes_k31)
theorem canonCodes_named : Tryd.prog.funcNamed Rows.canonCodesRow.func = some 6 := by kernel_rfl
theorem canonCodes_inst : Tryd.f6.isInstance Tryd.prog Rows.canonCodesRow.origin Rows.canonCodesRow.targs := of_decide_eq_true (by kernel_rfl)
theorem canonCodes_wrap : Tryd.f6.isWrapper Tryd.prog Rows.canonCodesRow.wrapper Rows.canonCodesRow.mainSum := by unfold Func.isWrapper; first | (rw [if_pos (by decide +kernel)]; kernel_rfl) | (rw [if_neg (by decide +kernel)]; exact ⟨rfl, rfl⟩)
set_option maxRecDepth 100000 in
theorem canonCodes_door (os : Os) (args : Array Value) : laidMetH Tryd.prog Rows.canonCodesRow.laid ((World.doorLaid Tryd.prog 400 os).forCall (fun _ _ => 0) ⟨#[], args, []⟩).memory :=
  laidMetH_of_parts3 (fuel := 8) (laidMet_of_run' 8 (by kernel_rfl) (by kernel_rfl)) (by kernel_rfl) (by kernel_rfl)
set_option maxRecDepth 100000 in
theorem canonCodes_lifted (os : Os) (started : os.Started) (H : Type) (enc : TypeId × Value → H) :
    ReturnsInHanded {} Tryd.checked os 6 .any (fun w args => (Rows.canonCodesSpec.pre enc Tryd.prog Tryd.f6 [] false w args ∧ laidMetH Tryd.prog Rows.canonCodesRow.laid w) ∧ sizedMet enc Tryd.prog Tryd.f6 (OpenSpec.ofChange Rows.canonCodesSpec) false w args) (Rows.canonCodesSpec.post enc Tryd.prog Tryd.f6 false true false false) := by
  refine returnsInHanded_of_change_and (C := Tryd.checked) (X := fun w _ => laidMetH Tryd.prog Rows.canonCodesRow.laid w) (fun _ _ _ hh h => h.of_heap hh) own started (by kernel_rfl) Tryd.func6
    (ChangeSpec.witness_shaped (enc := enc) (C := Tryd.checked) (os := os) (X := fun w _ => laidMetH Tryd.prog Rows.canonCodesRow.laid w) false (World.doorLaid Tryd.prog 400 os) #[.agg #[.slice none 0 0, .slice none 0 0, .int .i64 0]] 8 rfl (World.shaped_of_RefB (by kernel_rfl) (by kernel_rfl)) (by kernel_rfl) (by kernel_rfl) (by kernel_rfl) (canonCodes_door os _)) ?_
  intro W base args ds gs before hval0 hW hcnd _ hL _
  have hval : ∀ (j : Nat) t v, Tryd.f6.params[j]? = some t → args[j]? = some v → Value.okWide Tryd.prog W .any base t v := hval0
  have hW' := hW
  obtain ⟨p, q, hA0, hV, rfl, hfz, hnd⟩ := hW
  have hA : DataW.TrodAll enc Tryd.prog W 0 (fun _ => true) true Tryd.f6.params.toList args.toList ds p := hA0
  rw [Tryd.params6] at hA hval
  obtain ⟨v0, vs0, d0, ds0, p0, q0, hargs, rfl, rfl, h0, r0⟩ := trodAll_cons hA
  obtain ⟨rfl, rfl, rfl⟩ := trodAll_nil r0
  obtain rfl : args = #[v0] := by cases args; simp_all
  obtain ⟨rfl, rfl⟩ := trodVars_none hV
  obtain ⟨S0, M0, L0, aS0, aM0, cS0, cM0, rfl, hS0, hM0, lS0, lM0, wL0⟩ := open_diag (hval 0 24 v0 rfl rfl) h0
  have k0 := h0
  have lt0 : ∀ x ∈ p0, x.block < W.heap.size := by obtain ⟨m, hm⟩ := k0; exact DataW.trod_lt m _ _ _ hm
  clear hA0 hval0
  have hL2 : laidMet Tryd.prog Rows.canonCodesRow.laid W := hL
  have ht : Pow10 W := Lib.tabIs_of_head (g := 0) (t := 93) (e := 85) (n := 20) (by kernel_rfl) (by kernel_rfl) Tryd.underlying93 Tryd.underlying85 (by kernel_rfl) (by kernel_rfl) hL2.tail.tail
  refine (lcod_any S0 M0 L0 aS0 aM0 cS0 cM0 W ht lS0 lM0 wL0 hS0 hM0).mono fun e W' ⟨he, bel⟩ => ?_
  subst he
  exact ⟨_, rfl, _, _, _, [], _, [], hW', trodAll_mk1 (shut_bool Tryd.underlying4 _), (trodAll_cons_mk (Below.trod laidOut (by kernel_rfl) (of_decide_eq_true (by kernel_rfl)) k0 bel lt0) trodAll_mk0), rfl, bel.frame _, fun h => by cases h⟩
theorem canonCodes_row : Rows.CanonCodesSaid :=
  OpenClaim.holds_of_wide 6 Tryd.f6 rfl rfl rfl rfl rfl rfl rfl ⟨rfl, rfl, rfl, rfl, rfl⟩ rfl rfl rfl rfl rfl canonCodes_named Tryd.func6 canonCodes_closed canonCodes_inst canonCodes_wrap
    (fun os started H enc _ => canonCodes_lifted os started H enc)
theorem canonCodes_holds : Rows.CanonCodesCardSaid :=
  Claim7.holds_tied_plain_at .later [] [.data, .data, .data] true (true, "ecca1c5326bbd5663b8762b21df597a0e1f6b3c513ffeef2692957e3ec8b1300") false
    canonCodes_row (fun _ h => by cases h) (by kernel_rfl) (fun _ h => by cases h) canonCodes_row_tie rfl ⟨rfl, rfl⟩ (by kernel_rfl) rfl
    (fun f fn hf hfn => by
      obtain rfl : f = 6 := Option.some.inj (canonCodes_named.symm.trans hf) |>.symm
      obtain rfl : fn = Tryd.f6 := (Option.some.inj (Tryd.func6.symm.trans hfn)).symm
      exact ⟨by kernel_rfl, fun j t ht => by
        rw [Tryd.params6] at ht
        have hm : t ∈ [24] := by
          have := Array.mem_of_getElem? ht
          simpa using this
        have hall : ([24].all fun u => !Tryd.prog.wantsStandIn u) = true := by kernel_rfl
        exact (show Tryd.prog.wantsStandIn t = false by simpa using List.all_eq_true.1 hall t hm)⟩)
    (by kernel_rfl)
#print axioms canonCodes_holds
end Go.Proofs.YtmhhjchnjaefhaaDoor

