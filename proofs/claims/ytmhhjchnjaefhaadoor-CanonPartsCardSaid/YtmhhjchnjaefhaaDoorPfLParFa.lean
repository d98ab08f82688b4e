/- CanonParts: the order of split parts does not matter, and the code of two diagrams beside each other is determined by both codes; for all diagrams (the law itself looks at 10 crossings each at most). -/
import Derived.Test.YtmhhjchnjaefhaaDoorCards
import Derived.Test.YtmhhjchnjaefhaaDoorTie
import Derived.LaidMore
import Derived.SevenTiedAt
import Derived.Stop.Joined
import Derived.Stop.LaidErr
import Derived.Lib.LaidTab
import Derived.WalkKit
import Derived.WalkSpells
import Derived.WalkLawsBesides
import Derived.Deep.AppendSrc
import Derived.Deep.LoopGhost
import Derived.Deep.QuietTactic
import Derived.Deep.RegionWith
import Derived.Deep.DeepMust
import Derived.Deep.DeepFit
import Derived.BigQuiet
import Derived.Lib.Hide
import Derived.Outline
import Derived.Test.YtmhhjchnjaefhaaDoorRows
import Derived.ProofKit
import Derived.OpenShut
import Derived.ShutString
import Derived.ChangeOld
import Derived.Below
import Derived.Lib.SmallJoins
import Derived.Test.YtmhhjchnjaefhaaDoorProg
import Derived.Deep.Matrix
import Derived.Deep.DeepCutAuto
import Derived.Deep.RegionLaw
import Derived.Deep.RegionHeld3
import Derived.Lib.SliceRun
import Derived.Shelf.Strings.Builder1
import Derived.Shelf.Small.Wraps
import Derived.Shelf.Strings.BuilderF
import Derived.Shelf.Strings.BuilderK
import Derived.Shelf.Strconv.Itoa0
import Derived.Shelf.Strconv.Itoa1
import Derived.Shelf.LaysM
import Derived.Shelf.Strconv.Itoa2
import Derived.Shelf.Strconv.Itoa3
import Derived.Shelf.Slices.Equal
import Derived.Ground.Names2Prog
import Derived.Shelf.Slices.Clone
import Derived.Shelf.Slices.SearchI
import Derived.Shelf.Slices.Empties2
import Derived.Ground.SlgnProg
import Derived.Shelf.SlicesE.Clone
import Derived.Sort.OwnSortedInts
import Derived.Shelf.Small.Bits
import Derived.Shelf.Sort.Plain
import Derived.Shelf.Slices.Turned
import Derived.Shelf.Slices.CompactI
import Derived.Shelf.Slices.Cells
import Derived.Shelf.Slices.In.SortNone
import Derived.Lib.AppendZeros
import Derived.Deep.RegionHeld
import Derived.Lib.Builder
import Derived.Lib.AppendStr
import Derived.Lib.Walk
import Derived.Laws.Externs
import Derived.Lib.AppendIntMem
import Derived.Test.YtmhhjchnjaefhaaDoorFaAa
import Derived.Test.YtmhhjchnjaefhaaDoorFaAb
import Derived.Test.YtmhhjchnjaefhaaDoorFaAc
import Derived.Test.YtmhhjchnjaefhaaDoorFaAd
import Derived.Test.YtmhhjchnjaefhaaDoorFaAe
import Derived.Test.YtmhhjchnjaefhaaDoorFaAf
import Derived.Test.YtmhhjchnjaefhaaDoorFaAg
import Derived.Test.YtmhhjchnjaefhaaDoorFaAh
import Derived.Test.YtmhhjchnjaefhaaDoorFaAi
import Derived.Test.YtmhhjchnjaefhaaDoorFaAj
import Derived.Test.YtmhhjchnjaefhaaDoorFaAk
import Derived.Test.YtmhhjchnjaefhaaDoorFaAl
import Derived.Test.YtmhhjchnjaefhaaDoorFaAm
import Derived.Test.YtmhhjchnjaefhaaDoorFaAn
import Derived.Test.YtmhhjchnjaefhaaDoorFaAo
import Derived.Test.YtmhhjchnjaefhaaDoorFaAp
import Derived.Test.YtmhhjchnjaefhaaDoorFaAq
import Derived.Test.YtmhhjchnjaefhaaDoorFaAr
import Derived.Test.YtmhhjchnjaefhaaDoorFaAs
import Derived.Test.YtmhhjchnjaefhaaDoorFaAt
namespace Go.Proofs.YtmhhjchnjaefhaaDoor
open Go Go.RowKit Go.ChangeShapes Go.WideShapes Go.ChangeAt Go.Joins
theorem canonParts_k0 : (Rows.canonPartsRow.wf (OpenSpec.ofChange Rows.canonPartsSpec)) = true := by kernel_rfl
theorem canonParts_k3 : (Tryd.f9.params.all (Tryd.prog.readableRec ·)) = true := by kernel_rfl
theorem canonParts_k4 : (namedTie Tryd.prog Rows.canonPartsRow.named Rows.canonPartsSpec.vars) = true := by kernel_rfl
theorem canonParts_k5 : (Rows.canonPartsRow.stops == []) = true := by kernel_rfl
theorem canonParts_k7 : (Rows.canonPartsRow.knobs == []) = true := by kernel_rfl
theorem canonParts_k9 : (Rows.canonPartsRow.inPlace == Tryd.prog.inPlace 9) = true := by kernel_rfl
theorem canonParts_k10 : (Rows.canonPartsRow.unfollowed == Tryd.prog.unfollowed 9) = true := by kernel_rfl
theorem canonParts_k11 : (Rows.canonPartsRow.recurses == Tryd.prog.recurses 9) = true := by kernel_rfl
theorem canonParts_k12 : (Rows.canonPartsRow.named == Tryd.prog.varsNamed 9) = true := by kernel_rfl
theorem canonParts_k13 : (Rows.canonPartsRow.maps == (Tryd.f9.params.toList ++ Rows.canonPartsSpec.plain.varTypes Tryd.prog).any (Tryd.prog.mapsRec ·)) = true := by kernel_rfl
theorem canonParts_k14 : (Rows.canonPartsRow.ifaces == (Tryd.f9.params.toList ++ Rows.canonPartsSpec.plain.varTypes Tryd.prog).any (Tryd.prog.ifacesRec ·)) = true := by kernel_rfl
theorem canonParts_k15 : (Rows.canonPartsRow.mapsOut == Tryd.prog.mapsAmong Tryd.f9.resultTypes.toList) = true := by kernel_rfl
theorem canonParts_k16 : (Rows.canonPartsRow.loops == (Tryd.f9.params.toList ++ Rows.canonPartsSpec.plain.varTypes Tryd.prog).any (Tryd.prog.loopsFrom ·)) = true := by kernel_rfl
theorem canonParts_k17 : (Rows.canonPartsRow.wideKeys == (Tryd.f9.params.toList ++ Rows.canonPartsSpec.plain.varTypes Tryd.prog ++ Tryd.f9.resultTypes.toList).any (Tryd.prog.wideKeysFrom ·)) = true := by kernel_rfl
theorem canonParts_k18 : (Rows.canonPartsSpec.vars.all (Tryd.prog.varReadable ·)) = true := by kernel_rfl
theorem canonParts_k19 : (Tryd.f9.resultTypes.all (fun t => Tryd.prog.readableRec t && decide (t < Tryd.prog.types.size))) = true := by kernel_rfl
theorem canonParts_k20 : (Rows.canonPartsRow.ifacesOut == Tryd.f9.resultTypes.toList.any (Tryd.prog.ifacesRec ·)) = true := by kernel_rfl
theorem canonParts_k21 : (Rows.canonPartsRow.loopsOut == Tryd.f9.resultTypes.toList.any (Tryd.prog.loopsFrom ·)) = true := by kernel_rfl
theorem canonParts_k22 : (Rows.canonPartsRow.plainKeys == Tryd.prog.plainKeys) = true := by rw [prog_keys]; rfl
theorem canonParts_k23 : (Rows.canonPartsRow.shortTexts.isNone) = true := by kernel_rfl
theorem canonParts_k26 : (Rows.canonPartsRow.lifted == Tryd.prog.liftsFinal) = true := by rw [prog_final]; rfl
theorem canonParts_k27 : (Tryd.prog.make == some Rows.canonPartsRow.make) = true := by rw [prog_make]; rfl
theorem canonParts_k28 : (Rows.canonPartsRow.kinds == (if Rows.canonPartsRow.domain.isEmpty then [] else Tryd.f9.params.toList.map fun t => match Tryd.prog.underlying t with | some (.int k) => some k | _ => none)) = true := by kernel_rfl
theorem canonParts_k29 : (Rows.canonPartsRow.pinned == Rows.canonPartsRow.pinnedBy) = true := by kernel_rfl
theorem canonParts_k30 : (Rows.canonPartsRow.veiled == (Tryd.f9.params.toList ++ Rows.canonPartsSpec.plain.varTypes Tryd.prog ++ Tryd.f9.resultTypes.toList).any (Tryd.prog.veiledRec ·)) = true := by kernel_rfl
theorem canonParts_k31 : (Rows.canonPartsRow.veiledFits Tryd.prog Tryd.f9.params.toList (Tryd.f9.params.toList ++ Rows.canonPartsSpec.plain.varTypes Tryd.prog ++ Tryd.f9.resultTypes.toList)) = true := by kernel_rfl
set_option maxRecDepth 100000 in
theorem canonParts_closed : joinedFacts Tryd.prog 9 Tryd.f9 Rows.canonPartsSpec Rows.canonPartsRow = true := (and2 (and2 (and2 (and2 (and2 (and2 (and2 (and2 (and2 (and2 (and2 (and2 (and2 (and2 (and2 (and2 (and2 (and2 (and2 (and2 (and2 (and2 (and2 (and2 (and2 (and2 (and2 (and2 (and2 (and2 (and2 canonParts_k0 laidOut) prog_maps) canonParts_k3) canonParts_k4) canonParts_k5) prog_stops) canonParts_k7) prog_knobs) canonParts_k9) canonParts_k10) canonParts_k11) canonParts_k12) canonParts_k13) canonParts_k14) canonParts_k15) canonParts_k16) canonParts_k17) canonParts_k18) canonParts_k19) canonParts_k20) canonParts_k21) canonParts_k22) canonParts_k23) prog_heard) prog_enter) canonParts_k26) canonParts_k27) canonParts_k28) canonParts_k29) canonParts_k30) canonParts_k31)
theorem canonParts_named : Tryd.prog.funcNamed Rows.canonPartsRow.func = some 9 := by kernel_rfl
theorem canonParts_inst : Tryd.f9.isInstance Tryd.prog Rows.canonPartsRow.origin Rows.canonPartsRow.targs := of_decide_eq_true (by kernel_rfl)
theorem canonParts_wrap : Tryd.f9.isWrapper Tryd.prog Rows.canonPartsRow.wrapper Rows.canonPartsRow.mainSum := by unfold Func.isWrapper; first | (rw [if_pos (by decide +kernel)]; kernel_rfl) | (rw [if_neg (by decide +kernel)]; exact ⟨rfl, rfl⟩)
set_option maxRecDepth 100000 in
theorem canonParts_door (os : Os) (args : Array Value) : laidMetH Tryd.prog Rows.canonPartsRow.laid ((World.doorLaid Tryd.prog 400 os).forCall (fun _ _ => 0) ⟨#[], args, []⟩).memory :=
  laidMetH_of_parts3 (fuel := 8) (laidMet_of_run' 8 (by kernel_rfl) (by kernel_rfl)) (by kernel_rfl) (by kernel_rfl)
set_option maxRecDepth 100000 in
theorem canonParts_lifted (os : Os) (started : os.Started) (H : Type) (enc : TypeId × Value → H) :
    ReturnsInHanded {} Tryd.checked os 9 .any (fun w args => (Rows.canonPartsSpec.pre enc Tryd.prog Tryd.f9 [] false w args ∧ laidMetH Tryd.prog Rows.canonPartsRow.laid w) ∧ sizedMet enc Tryd.prog Tryd.f9 (OpenSpec.ofChange Rows.canonPartsSpec) false w args) (Rows.canonPartsSpec.post enc Tryd.prog Tryd.f9 false true false false) := by
  refine returnsInHanded_of_change_and (C := Tryd.checked) (X := fun w _ => laidMetH Tryd.prog Rows.canonPartsRow.laid w) (fun _ _ _ hh h => h.of_heap hh) own started (by kernel_rfl) Tryd.func9
    (ChangeSpec.witness_shaped (enc := enc) (C := Tryd.checked) (os := os) (X := fun w _ => laidMetH Tryd.prog Rows.canonPartsRow.laid w) false (World.doorLaid Tryd.prog 400 os) #[.agg #[.slice none 0 0, .slice none 0 0, .int .i64 0], .agg #[.slice none 0 0, .slice none 0 0, .int .i64 0]] 8 rfl (World.shaped_of_RefB (by kernel_rfl) (by kernel_rfl)) (by kernel_rfl) (by kernel_rfl) (by kernel_rfl) (canonParts_door os _)) ?_
  intro W base args ds gs before hval0 hW hcnd _ hL _
  have hval : ∀ (j : Nat) t v, Tryd.f9.params[j]? = some t → args[j]? = some v → Value.okWide Tryd.prog W .any base t v := hval0
  have hW' := hW
  obtain ⟨p, q, hA0, hV, rfl, hfz, hnd⟩ := hW
  have hA : DataW.TrodAll enc Tryd.prog W 0 (fun _ => true) true Tryd.f9.params.toList args.toList ds p := hA0
  rw [Tryd.params9] at hA hval
  obtain ⟨v0, vs0, d0, ds0, p0, q0, hargs, rfl, rfl, h0, r0⟩ := trodAll_cons hA
  obtain ⟨v1, vs1, d1, ds1, p1, q1, rfl, rfl, rfl, h1, r1⟩ := trodAll_cons r0
  obtain ⟨rfl, rfl, rfl⟩ := trodAll_nil r1
  obtain rfl : args = #[v0, v1] := by cases args; simp_all
  obtain ⟨rfl, rfl⟩ := trodVars_none hV
  obtain ⟨S0, M0, L0, aS0, aM0, cS0, cM0, rfl, hS0, hM0, lS0, lM0, wL0⟩ := open_diag (hval 0 24 v0 rfl rfl) h0
  have k0 := h0
  have lt0 : ∀ x ∈ p0, x.block < W.heap.size := by obtain ⟨m, hm⟩ := k0; exact DataW.trod_lt m _ _ _ hm
  obtain ⟨S1, M1, L1, aS1, aM1, cS1, cM1, rfl, hS1, hM1, lS1, lM1, wL1⟩ := open_diag (hval 1 24 v1 rfl rfl) h1
  have k1 := h1
  have lt1 : ∀ x ∈ p1, x.block < W.heap.size := by obtain ⟨m, hm⟩ := k1; exact DataW.trod_lt m _ _ _ hm
  clear hA0 hval0
  have hL2 : laidMet Tryd.prog Rows.canonPartsRow.laid W := hL
  have ht : Pow10 W := Lib.tabIs_of_head (g := 0) (t := 93) (e := 85) (n := 20) (by kernel_rfl) (by kernel_rfl) Tryd.underlying93 Tryd.underlying85 (by kernel_rfl) (by kernel_rfl) hL2.tail.tail
  refine (lpar_any S0 M0 L0 aS0 aM0 cS0 cM0 S1 M1 L1 aS1 aM1 cS1 cM1 W ht lS0 lM0 wL0 hS0 hM0 lS1 lM1 wL1 hS1 hM1).mono fun e W' ⟨he, bel⟩ => ?_
  subst he
  exact ⟨_, rfl, _, _, _, [], _, [], hW', trodAll_mk1 (shut_bool Tryd.underlying4 _), (trodAll_cons_mk (Below.trod laidOut (by kernel_rfl) (of_decide_eq_true (by kernel_rfl)) k0 bel lt0) (trodAll_cons_mk (Below.trod laidOut (by kernel_rfl) (of_decide_eq_true (by kernel_rfl)) k1 bel lt1) trodAll_mk0)), rfl, bel.frame _, fun h => by cases h⟩
theorem canonParts_row : Rows.CanonPartsSaid :=
  OpenClaim.holds_of_wide 9 Tryd.f9 rfl rfl rfl rfl rfl rfl rfl ⟨rfl, rfl, rfl, rfl, rfl⟩ rfl rfl rfl rfl rfl canonParts_named Tryd.func9 canonParts_closed canonParts_inst canonParts_wrap
    (fun os started H enc _ => canonParts_lifted os started H enc)
theorem canonParts_holds : Rows.CanonPartsCardSaid :=
  Claim7.holds_tied_plain_at .later [] [.data, .data, .data] true (true, "ecca1c5326bbd5663b8762b21df597a0e1f6b3c513ffeef2692957e3ec8b1300") false
    canonParts_row (fun _ h => by cases h) (by kernel_rfl) (fun _ h => by cases h) canonParts_row_tie rfl ⟨rfl, rfl⟩ (by kernel_rfl) rfl
    (fun f fn hf hfn => by
      obtain rfl : f = 9 := Option.some.inj (canonParts_named.symm.trans hf) |>.symm
      obtain rfl : fn = Tryd.f9 := (Option.some.inj (Tryd.func9.symm.trans hfn)).symm
      exact ⟨by kernel_rfl, fun j t ht => by
        rw [Tryd.params9] at ht
        have hm : t ∈ [24] := by
          have := Array.mem_of_getElem? ht
          simpa using this
        have hall : ([24].all fun u => !Tryd.prog.wantsStandIn u) = true := by kernel_rfl
        exact (show Tryd.prog.wantsStandIn t = false by simpa using List.all_eq_true.1 hall t hm)⟩)
    (by kernel_rfl)
#print axioms canonParts_holds
end Go.Proofs.YtmhhjchnjaefhaaDoor

