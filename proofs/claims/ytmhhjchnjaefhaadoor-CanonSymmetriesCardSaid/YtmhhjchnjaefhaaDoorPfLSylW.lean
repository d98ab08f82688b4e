/- CanonSymmetries: Symmetries counts the orders of the crossings that renumber a diagram into itself; for every diagram (the law itself looks at 5 crossings at most). -/
import Derived.Test.YtmhhjchnjaefhaaDoorCards
import Derived.Test.YtmhhjchnjaefhaaDoorTie
import Derived.LaidMore
import Derived.SevenTiedAt
import Derived.Stop.Joined
import Derived.Stop.LaidErr
import Derived.Lib.LaidTab
import Derived.WalkKit
import Derived.WalkSpells
import Derived.WalkLawsBesides
import Derived.Deep.AppendSrc
import Derived.Deep.LoopGhost
import Derived.Deep.QuietTactic
import Derived.Deep.RegionWith
import Derived.Deep.DeepMust
import Derived.Deep.DeepFit
import Derived.BigQuiet
import Derived.Lib.Hide
import Derived.Outline
import Derived.Test.YtmhhjchnjaefhaaDoorRows
import Derived.ProofKit
import Derived.OpenShut
import Derived.ShutString
import Derived.ChangeOld
import Derived.Below
import Derived.Lib.SmallJoins
import Derived.Test.YtmhhjchnjaefhaaDoorProg
import Derived.Deep.Matrix
import Derived.Deep.DeepCutAuto
import Derived.Deep.RegionLaw
import Derived.Deep.RegionHeld3
import Derived.Lib.SliceRun
import Derived.Shelf.Strings.Builder1
import Derived.Shelf.Small.Wraps
import Derived.Shelf.Strings.BuilderF
import Derived.Shelf.Strings.BuilderK
import Derived.Shelf.Strconv.Itoa0
import Derived.Shelf.Strconv.Itoa1
import Derived.Shelf.LaysM
import Derived.Shelf.Strconv.Itoa2
import Derived.Shelf.Strconv.Itoa3
import Derived.Shelf.Slices.Equal
import Derived.Ground.Names2Prog
import Derived.Shelf.Slices.Clone
import Derived.Shelf.Slices.SearchI
import Derived.Shelf.Slices.Empties2
import Derived.Ground.SlgnProg
import Derived.Shelf.SlicesE.Clone
import Derived.Sort.OwnSortedInts
import Derived.Shelf.Small.Bits
import Derived.Shelf.Sort.Plain
import Derived.Shelf.Slices.Turned
import Derived.Shelf.Slices.CompactI
import Derived.Shelf.Slices.Cells
import Derived.Shelf.Slices.In.SortNone
import Derived.Lib.AppendZeros
import Derived.Deep.RegionHeld
import Derived.Lib.Builder
import Derived.Lib.AppendStr
import Derived.Lib.Walk
import Derived.Laws.Externs
import Derived.Lib.AppendIntMem
import Derived.Test.YtmhhjchnjaefhaaDoorWAa
import Derived.Test.YtmhhjchnjaefhaaDoorWAb
import Derived.Test.YtmhhjchnjaefhaaDoorWAc
import Derived.Test.YtmhhjchnjaefhaaDoorWAd
import Derived.Test.YtmhhjchnjaefhaaDoorWAe
import Derived.Test.YtmhhjchnjaefhaaDoorWAf
import Derived.Test.YtmhhjchnjaefhaaDoorWAg
import Derived.Test.YtmhhjchnjaefhaaDoorWAh
import Derived.Test.YtmhhjchnjaefhaaDoorWAi
import Derived.Test.YtmhhjchnjaefhaaDoorWAj
import Derived.Test.YtmhhjchnjaefhaaDoorWAk
import Derived.Test.YtmhhjchnjaefhaaDoorWAl
import Derived.Test.YtmhhjchnjaefhaaDoorWAm
import Derived.Test.YtmhhjchnjaefhaaDoorWAn
import Derived.Test.YtmhhjchnjaefhaaDoorWAo
import Derived.Test.YtmhhjchnjaefhaaDoorWAp
import Derived.Test.YtmhhjchnjaefhaaDoorWAq
import Derived.Test.YtmhhjchnjaefhaaDoorWAr
import Derived.Test.YtmhhjchnjaefhaaDoorWAs
namespace Go.Proofs.YtmhhjchnjaefhaaDoor
open Go Go.RowKit Go.ChangeShapes Go.WideShapes Go.ChangeAt Go.Joins
theorem canonSymmetries_k0 : (Rows.canonSymmetriesRow.wf (OpenSpec.ofChange Rows.canonSymmetriesSpec)) = true := by kernel_rfl
theorem canonSymmetries_k3 : (Tryd.f4.params.all (Tryd.prog.readableRec ·)) = true := by kernel_rfl
theorem canonSymmetries_k4 : (namedTie Tryd.prog Rows.canonSymmetriesRow.named Rows.canonSymmetriesSpec.vars) = true := by kernel_rfl
theorem canonSymmetries_k5 : (Rows.canonSymmetriesRow.stops == []) = true := by kernel_rfl
theorem canonSymmetries_k7 : (Rows.canonSymmetriesRow.knobs == []) = true := by kernel_rfl
theorem canonSymmetries_k9 : (Rows.canonSymmetriesRow.inPlace == Tryd.prog.inPlace 4) = true := by kernel_rfl
theorem canonSymmetries_k10 : (Rows.canonSymmetriesRow.unfollowed == Tryd.prog.unfollowed 4) = true := by kernel_rfl
theorem canonSymmetries_k11 : (Rows.canonSymmetriesRow.recurses == Tryd.prog.recurses 4) = true := by kernel_rfl
theorem canonSymmetries_k12 : (Rows.canonSymmetriesRow.named == Tryd.prog.varsNamed 4) = true := by kernel_rfl
theorem canonSymmetries_k13 : (Rows.canonSymmetriesRow.maps == (Tryd.f4.params.toList ++ Rows.canonSymmetriesSpec.plain.varTypes Tryd.prog).any (Tryd.prog.mapsRec ·)) = true := by kernel_rfl
theorem canonSymmetries_k14 : (Rows.canonSymmetriesRow.ifaces == (Tryd.f4.params.toList ++ Rows.canonSymmetriesSpec.plain.varTypes Tryd.prog).any (Tryd.prog.ifacesRec ·)) = true := by kernel_rfl
theorem canonSymmetries_k15 : (Rows.canonSymmetriesRow.mapsOut == Tryd.prog.mapsAmong Tryd.f4.resultTypes.toList) = true := by kernel_rfl
theorem canonSymmetries_k16 : (Rows.canonSymmetriesRow.loops == (Tryd.f4.params.toList ++ Rows.canonSymmetriesSpec.plain.varTypes Tryd.prog).any (Tryd.prog.loopsFrom ·)) = true := by kernel_rfl
theorem canonSymmetries_k17 : (Rows.canonSymmetriesRow.wideKeys == (Tryd.f4.params.toList ++ Rows.canonSymmetriesSpec.plain.varTypes Tryd.prog ++ Tryd.f4.resultTypes.toList).any (Tryd.prog.wideKeysFrom ·)) = true := by kernel_rfl
theorem canonSymmetries_k18 : (Rows.canonSymmetriesSpec.vars.all (Tryd.prog.varReadable ·)) = true := by kernel_rfl
theorem canonSymmetries_k19 : (Tryd.f4.resultTypes.all (fun t => Tryd.prog.readableRec t && decide (t < Tryd.prog.types.size))) = true := by kernel_rfl
theorem canonSymmetries_k20 : (Rows.canonSymmetriesRow.ifacesOut == Tryd.f4.resultTypes.toList.any (Tryd.prog.ifacesRec ·)) = true := by kernel_rfl
theorem canonSymmetries_k21 : (Rows.canonSymmetriesRow.loopsOut == Tryd.f4.resultTypes.toList.any (Tryd.prog.loopsFrom ·)) = true := by kernel_rfl
theorem canonSymmetries_k22 : (Rows.canonSymmetriesRow.plainKeys == Tryd.prog.plainKeys) = true := by rw [prog_keys]; rfl
theorem canonSymmetries_k23 : (Rows.canonSymmetriesRow.shortTexts.isNone) = true := by kernel_rfl
theorem canonSymmetries_k26 : (Rows.canonSymmetriesRow.lifted == Tryd.prog.liftsFinal) = true := by rw [prog_final]; rfl
theorem canonSymmetries_k27 : (Tryd.prog.make == some Rows.canonSymmetriesRow.make) = true := by rw [prog_make]; rfl
theorem canonSymmetries_k28 : (Rows.canonSymmetriesRow.kinds == (if Rows.canonSymmetriesRow.domain.isEmpty then [] else Tryd.f4.params.toList.map fun t => match Tryd.prog.underlying t with | some (.int k) => some k | _ => none)) = true := by kernel_rfl
theorem canonSymmetries_k29 : (Rows.canonSymmetriesRow.pinned == Rows.canonSymmetriesRow.pinnedBy) = true := by kernel_rfl
theorem canonSymmetries_k30 : (Rows.canonSymmetriesRow.veiled == (Tryd.f4.params.toList ++ Rows.canonSymmetriesSpec.plain.varTypes Tryd.prog ++ Tryd.f4.resultTypes.toList).any (Tryd.prog.veiledRec ·)) = true := by kernel_rfl
theorem canonSymmetries_k31 : (Rows.canonSymmetriesRow.veiledFits Tryd.prog Tryd.f4.params.toList (Tryd.f4.params.toList ++ Rows.canonSymmetriesSpec.plain.varTypes Tryd.prog ++ Tryd.f4.resultTypes.toList)) = true := by kernel_rfl
set_option maxRecDepth 100000 in
theorem canonSymmetries_closed : joinedFacts Tryd.prog 4 Tryd.f4 Rows.canonSymmetriesSpec Rows.canonSymmetriesRow = true := (and2 (and2 (and2 (and2 (and2 (and2 (and2 (and2 (and2 (and2 (and2 (and2 (and2 (and2 (and2 (and2 (and2 (and2 (and2 (and2 (and2 (and2 (and2 (and2 (and2 (and2 (and2 (and2 (and2 (and2 (and2 canonSymmetries_k0 laidOut) prog_maps) canonSymmetries_k3) canonSymmetries_k4) canonSymmetries_k5) prog_stops) canonSymmetries_k7) prog_knobs) canonSymmetries_k9) canonSymmetries_k10) canonSymmetries_k11) canonSymmetries_k12) canonSymmetries_k13) canonSymmetries_k14) canonSymmetries_k15) canonSymmetries_k16) canonSymmetries_k17) canonSymmetries_k18) canonSymmetries_k19) canonSymmetries_k20) canonSymmetries_k21) canonSymmetries_k22) canonSymmetries_k23) prog_heard) prog_enter) canonSymmetries_k26) canonSymmetries_k27) canonSymmetries_k28) canonSymmetries_k29) canonSymmetries_k30) canonSymmetries_k31)
theorem canonSymmetries_named : Tryd.prog.funcNamed Rows.canonSymmetriesRow.func = some 4 := by kernel_rfl
theorem canonSymmetries_inst : Tryd.f4.isInstance Tryd.prog Rows.canonSymmetriesRow.origin Rows.canonSymmetriesRow.targs := of_decide_eq_true (by kernel_rfl)
theorem canonSymmetries_wrap : Tryd.f4.isWrapper Tryd.prog Rows.canonSymmetriesRow.wrapper Rows.canonSymmetriesRow.mainSum := by unfold Func.isWrapper; first | (rw [if_pos (by decide +kernel)]; kernel_rfl) | (rw [if_neg (by decide +kernel)]; exact ⟨rfl, rfl⟩)
set_option maxRecDepth 100000 in
theorem canonSymmetries_door (os : Os) (args : Array Value) : laidMetH Tryd.prog Rows.canonSymmetriesRow.laid ((World.doorLaid Tryd.prog 400 os).forCall (fun _ _ => 0) ⟨#[], args, []⟩).memory :=
  laidMetH_of_parts3 (fuel := 8) (laidMet_of_run' 8 (by kernel_rfl) (by kernel_rfl)) (by kernel_rfl) (by kernel_rfl)
set_option maxRecDepth 100000 in
theorem canonSymmetries_lifted (os : Os) (started : os.Started) (H : Type) (enc : TypeId × Value → H) :
    ReturnsInHanded {} Tryd.checked os 4 .any (fun w args => (Rows.canonSymmetriesSpec.pre enc Tryd.prog Tryd.f4 [] false w args ∧ laidMetH Tryd.prog Rows.canonSymmetriesRow.laid w) ∧ sizedMet enc Tryd.prog Tryd.f4 (OpenSpec.ofChange Rows.canonSymmetriesSpec) false w args) (Rows.canonSymmetriesSpec.post enc Tryd.prog Tryd.f4 false true false false) := by
  refine returnsInHanded_of_change_and (C := Tryd.checked) (X := fun w _ => laidMetH Tryd.prog Rows.canonSymmetriesRow.laid w) (fun _ _ _ hh h => h.of_heap hh) own started (by kernel_rfl) Tryd.func4
    (ChangeSpec.witness_shaped (enc := enc) (C := Tryd.checked) (os := os) (X := fun w _ => laidMetH Tryd.prog Rows.canonSymmetriesRow.laid w) false (World.doorLaid Tryd.prog 400 os) #[.agg #[.slice none 0 0, .slice none 0 0, .int .i64 0]] 8 rfl (World.shaped_of_RefB (by kernel_rfl) (by kernel_rfl)) (by kernel_rfl) (by kernel_rfl) (by kernel_rfl) (canonSymmetries_door os _)) ?_
  intro W base args ds gs before hval0 hW hcnd _ hL _
  have hval : ∀ (j : Nat) t v, Tryd.f4.params[j]? = some t → args[j]? = some v → Value.okWide Tryd.prog W .any base t v := hval0
  have hW' := hW
  obtain ⟨p, q, hA0, hV, rfl, hfz, hnd⟩ := hW
  have hA : DataW.TrodAll enc Tryd.prog W 0 (fun _ => true) true Tryd.f4.params.toList args.toList ds p := hA0
  rw [Tryd.params4] at hA hval
  obtain ⟨v0, vs0, d0, ds0, p0, q0, hargs, rfl, rfl, h0, r0⟩ := trodAll_cons hA
  obtain ⟨rfl, rfl, rfl⟩ := trodAll_nil r0
  obtain rfl : args = #[v0] := by cases args; simp_all
  obtain ⟨rfl, rfl⟩ := trodVars_none hV
  obtain ⟨S0, M0, L0, aS0, aM0, cS0, cM0, rfl, hS0, hM0, lS0, lM0, wL0⟩ := open_diag (hval 0 24 v0 rfl rfl) h0
  have k0 := h0
  have lt0 : ∀ x ∈ p0, x.block < W.heap.size := by obtain ⟨m, hm⟩ := k0; exact DataW.trod_lt m _ _ _ hm
  clear hA0 hval0
  have hL2 : laidMet Tryd.prog Rows.canonSymmetriesRow.laid W := hL
  have ht : Pow10 W := Lib.tabIs_of_head (g := 0) (t := 93) (e := 85) (n := 20) (by kernel_rfl) (by kernel_rfl) Tryd.underlying93 Tryd.underlying85 (by kernel_rfl) (by kernel_rfl) hL2.tail.tail
  refine (lsyl_any S0 M0 L0 aS0 aM0 cS0 cM0 W ht lS0 lM0 wL0 hS0 hM0).mono fun e W' ⟨he, bel⟩ => ?_
  subst he
  exact ⟨_, rfl, _, _, _, [], _, [], hW', trodAll_mk1 (shut_bool Tryd.underlying4 _), (trodAll_cons_mk (Below.trod laidOut (by kernel_rfl) (of_decide_eq_true (by kernel_rfl)) k0 bel lt0) trodAll_mk0), rfl, bel.frame _, fun h => by cases h⟩
theorem canonSymmetries_row : Rows.CanonSymmetriesSaid :=
  OpenClaim.holds_of_wide 4 Tryd.f4 rfl rfl rfl rfl rfl rfl rfl ⟨rfl, rfl, rfl, rfl, rfl⟩ rfl rfl rfl rfl rfl canonSymmetries_named Tryd.func4 canonSymmetries_closed canonSymmetries_inst canonSymmetries_wrap
    (fun os started H enc _ => canonSymmetries_lifted os started H enc)
theorem canonSymmetries_holds : Rows.CanonSymmetriesCardSaid :=
  Claim7.holds_tied_plain_at .later [] [.data, .data, .data] true (true, "ecca1c5326bbd5663b8762b21df597a0e1f6b3c513ffeef2692957e3ec8b1300") false
    canonSymmetries_row (fun _ h => by cases h) (by kernel_rfl) (fun _ h => by cases h) canonSymmetries_row_tie rfl ⟨rfl, rfl⟩ (by kernel_rfl) rfl
    (fun f fn hf hfn => by
      obtain rfl : f = 4 := Option.some.inj (canonSymmetries_named.symm.trans hf) |>.symm
      obtain rfl : fn = Tryd.f4 := (Option.some.inj (Tryd.func4.symm.trans hfn)).symm
      exact ⟨by kernel_rfl, fun j t ht => by
        rw [Tryd.params4] at ht
        have hm : t ∈ [24] := by
          have := Array.mem_of_getElem? ht
          simpa using this
        have hall : ([24].all fun u => !Tryd.prog.wantsStandIn u) = true := by kernel_rfl
        exact (show Tryd.prog.wantsStandIn t = false by simpa using List.all_eq_true.1 hall t hm)⟩)
    (by kernel_rfl)
#print axioms canonSymmetries_holds
end Go.Proofs.YtmhhjchnjaefhaaDoor

