/- CanonIdempotent: the form of a diagram is a valid diagram that is isomorphic to it, with as many faces, strands and parts, and it is its own form; for all diagrams (the law itself looks at 20 crossings at most). -/
import Derived.Test.YtmhhjchnjaefhaaDoorCards
import Derived.Test.YtmhhjchnjaefhaaDoorTie
import Derived.LaidMore
import Derived.SevenTiedAt
import Derived.Stop.Joined
import Derived.Stop.LaidErr
import Derived.Lib.LaidTab
import Derived.WalkKit
import Derived.WalkSpells
import Derived.WalkLawsBesides
import Derived.Deep.AppendSrc
import Derived.Deep.LoopGhost
import Derived.Deep.QuietTactic
import Derived.Deep.RegionWith
import Derived.Deep.DeepMust
import Derived.Deep.DeepFit
import Derived.BigQuiet
import Derived.Lib.Hide
import Derived.Outline
import Derived.Test.YtmhhjchnjaefhaaDoorRows
import Derived.ProofKit
import Derived.OpenShut
import Derived.ShutString
import Derived.ChangeOld
import Derived.Below
import Derived.Lib.SmallJoins
import Derived.Test.YtmhhjchnjaefhaaDoorProg
import Derived.Deep.Matrix
import Derived.Deep.DeepCutAuto
import Derived.Deep.RegionLaw
import Derived.Deep.RegionHeld3
import Derived.Lib.SliceRun
import Derived.Shelf.Strings.Builder1
import Derived.Shelf.Small.Wraps
import Derived.Shelf.Strings.BuilderF
import Derived.Shelf.Strings.BuilderK
import Derived.Shelf.Strconv.Itoa0
import Derived.Shelf.Strconv.Itoa1
import Derived.Shelf.LaysM
import Derived.Shelf.Strconv.Itoa2
import Derived.Shelf.Strconv.Itoa3
import Derived.Shelf.Slices.Equal
import Derived.Ground.Names2Prog
import Derived.Shelf.Slices.Clone
import Derived.Shelf.Slices.SearchI
import Derived.Shelf.Slices.Empties2
import Derived.Ground.SlgnProg
import Derived.Shelf.SlicesE.Clone
import Derived.Sort.OwnSortedInts
import Derived.Shelf.Small.Bits
import Derived.Shelf.Sort.Plain
import Derived.Shelf.Slices.Turned
import Derived.Shelf.Slices.CompactI
import Derived.Shelf.Slices.Cells
import Derived.Shelf.Slices.In.SortNone
import Derived.Lib.AppendZeros
import Derived.Deep.RegionHeld
import Derived.Lib.Builder
import Derived.Lib.AppendStr
import Derived.Lib.Walk
import Derived.Laws.Externs
import Derived.Lib.AppendIntMem
import Derived.Test.YtmhhjchnjaefhaaDoorSAa
import Derived.Test.YtmhhjchnjaefhaaDoorSAb
import Derived.Test.YtmhhjchnjaefhaaDoorSAc
import Derived.Test.YtmhhjchnjaefhaaDoorSAd
import Derived.Test.YtmhhjchnjaefhaaDoorSAe
import Derived.Test.YtmhhjchnjaefhaaDoorSAf
import Derived.Test.YtmhhjchnjaefhaaDoorSAg
import Derived.Test.YtmhhjchnjaefhaaDoorSAh
import Derived.Test.YtmhhjchnjaefhaaDoorSAi
import Derived.Test.YtmhhjchnjaefhaaDoorSAj
import Derived.Test.YtmhhjchnjaefhaaDoorSAk
import Derived.Test.YtmhhjchnjaefhaaDoorSAl
import Derived.Test.YtmhhjchnjaefhaaDoorSAm
import Derived.Test.YtmhhjchnjaefhaaDoorSAn
import Derived.Test.YtmhhjchnjaefhaaDoorSAo
import Derived.Test.YtmhhjchnjaefhaaDoorSAp
import Derived.Test.YtmhhjchnjaefhaaDoorSAq
import Derived.Test.YtmhhjchnjaefhaaDoorSAr
import Derived.Test.YtmhhjchnjaefhaaDoorSAs
namespace Go.Proofs.YtmhhjchnjaefhaaDoor
open Go Go.RowKit Go.ChangeShapes Go.WideShapes Go.ChangeAt Go.Joins
theorem canonIdempotent_k0 : (Rows.canonIdempotentRow.wf (OpenSpec.ofChange Rows.canonIdempotentSpec)) = true := by kernel_rfl
theorem canonIdempotent_k3 : (Tryd.f10.params.all (Tryd.prog.readableRec ·)) = true := by kernel_rfl
theorem canonIdempotent_k4 : (namedTie Tryd.prog Rows.canonIdempotentRow.named Rows.canonIdempotentSpec.vars) = true := by kernel_rfl
theorem canonIdempotent_k5 : (Rows.canonIdempotentRow.stops == []) = true := by kernel_rfl
theorem canonIdempotent_k7 : (Rows.canonIdempotentRow.knobs == []) = true := by kernel_rfl
theorem canonIdempotent_k9 : (Rows.canonIdempotentRow.inPlace == Tryd.prog.inPlace 10) = true := by kernel_rfl
theorem canonIdempotent_k10 : (Rows.canonIdempotentRow.unfollowed == Tryd.prog.unfollowed 10) = true := by kernel_rfl
theorem canonIdempotent_k11 : (Rows.canonIdempotentRow.recurses == Tryd.prog.recurses 10) = true := by kernel_rfl
theorem canonIdempotent_k12 : (Rows.canonIdempotentRow.named == Tryd.prog.varsNamed 10) = true := by kernel_rfl
theorem canonIdempotent_k13 : (Rows.canonIdempotentRow.maps == (Tryd.f10.params.toList ++ Rows.canonIdempotentSpec.plain.varTypes Tryd.prog).any (Tryd.prog.mapsRec ·)) = true := by kernel_rfl
theorem canonIdempotent_k14 : (Rows.canonIdempotentRow.ifaces == (Tryd.f10.params.toList ++ Rows.canonIdempotentSpec.plain.varTypes Tryd.prog).any (Tryd.prog.ifacesRec ·)) = true := by kernel_rfl
theorem canonIdempotent_k15 : (Rows.canonIdempotentRow.mapsOut == Tryd.prog.mapsAmong Tryd.f10.resultTypes.toList) = true := by kernel_rfl
theorem canonIdempotent_k16 : (Rows.canonIdempotentRow.loops == (Tryd.f10.params.toList ++ Rows.canonIdempotentSpec.plain.varTypes Tryd.prog).any (Tryd.prog.loopsFrom ·)) = true := by kernel_rfl
theorem canonIdempotent_k17 : (Rows.canonIdempotentRow.wideKeys == (Tryd.f10.params.toList ++ Rows.canonIdempotentSpec.plain.varTypes Tryd.prog ++ Tryd.f10.resultTypes.toList).any (Tryd.prog.wideKeysFrom ·)) = true := by kernel_rfl
theorem canonIdempotent_k18 : (Rows.canonIdempotentSpec.vars.all (Tryd.prog.varReadable ·)) = true := by kernel_rfl
theorem canonIdempotent_k19 : (Tryd.f10.resultTypes.all (fun t => Tryd.prog.readableRec t && decide (t < Tryd.prog.types.size))) = true := by kernel_rfl
theorem canonIdempotent_k20 : (Rows.canonIdempotentRow.ifacesOut == Tryd.f10.resultTypes.toList.any (Tryd.prog.ifacesRec ·)) = true := by kernel_rfl
theorem canonIdempotent_k21 : (Rows.canonIdempotentRow.loopsOut == Tryd.f10.resultTypes.toList.any (Tryd.prog.loopsFrom ·)) = true := by kernel_rfl
theorem canonIdempotent_k22 : (Rows.canonIdempotentRow.plainKeys == Tryd.prog.plainKeys) = true := by rw [prog_keys]; rfl
theorem canonIdempotent_k23 : (Rows.canonIdempotentRow.shortTexts.isNone) = true := by kernel_rfl
theorem canonIdempotent_k26 : (Rows.canonIdempotentRow.lifted == Tryd.prog.liftsFinal) = true := by rw [prog_final]; rfl
theorem canonIdempotent_k27 : (Tryd.prog.make == some Rows.canonIdempotentRow.make) = true := by rw [prog_make]; rfl
theorem canonIdempotent_k28 : (Rows.canonIdempotentRow.kinds == (if Rows.canonIdempotentRow.domain.isEmpty then [] else Tryd.f10.params.toList.map fun t => match Tryd.prog.underlying t with | some (.int k) => some k | _ => none)) = true := by kernel_rfl
theorem canonIdempotent_k29 : (Rows.canonIdempotentRow.pinned == Rows.canonIdempotentRow.pinnedBy) = true := by kernel_rfl
theorem canonIdempotent_k30 : (Rows.canonIdempotentRow.veiled == (Tryd.f10.params.toList ++ Rows.canonIdempotentSpec.plain.varTypes Tryd.prog ++ Tryd.f10.resultTypes.toList).any (Tryd.prog.veiledRec ·)) = true := by kernel_rfl
theorem canonIdempotent_k31 : (Rows.canonIdempotentRow.veiledFits Tryd.prog Tryd.f10.params.toList (Tryd.f10.params.toList ++ Rows.canonIdempotentSpec.plain.varTypes Tryd.prog ++ Tryd.f10.resultTypes.toList)) = true := by kernel_rfl
set_option maxRecDepth 100000 in
theorem canonIdempotent_closed : joinedFacts Tryd.prog 10 Tryd.f10 Rows.canonIdempotentSpec Rows.canonIdempotentRow = true := (and2 (and2 (and2 (and2 (and2 (and2 (and2 (and2 (and2 (and2 (and2 (and2 (and2 (and2 (and2 (and2 (and2 (and2 (and2 (and2 (and2 (and2 (and2 (and2 (and2 (and2 (and2 (and2 (and2 (and2 (and2 canonIdempotent_k0 laidOut) prog_maps) canonIdempotent_k3) canonIdempotent_k4) canonIdempotent_k5) prog_stops) canonIdempotent_k7) prog_knobs) canonIdempotent_k9) canonIdempotent_k10) canonIdempotent_k11) canonIdempotent_k12) canonIdempotent_k13) canonIdempotent_k14) canonIdempotent_k15) canonIdempotent_k16) canonIdempotent_k17) canonIdempotent_k18) canonIdempotent_k19) canonIdempotent_k20) canonIdempotent_k21) canonIdempotent_k22) canonIdempotent_k23) prog_heard) prog_enter) canonIdempotent_k26) canonIdempotent_k27) canonIdempotent_k28) canonIdempotent_k29) canonIdempotent_k30) canonIdempotent_k31)
theorem canonIdempotent_named : Tryd.prog.funcNamed Rows.canonIdempotentRow.func = some 10 := by kernel_rfl
theorem canonIdempotent_inst : Tryd.f10.isInstance Tryd.prog Rows.canonIdempotentRow.origin Rows.canonIdempotentRow.targs := of_decide_eq_true (by kernel_rfl)
theorem canonIdempotent_wrap : Tryd.f10.isWrapper Tryd.prog Rows.canonIdempotentRow.wrapper Rows.canonIdempotentRow.mainSum := by unfold Func.isWrapper; first | (rw [if_pos (by decide +kernel)]; kernel_rfl) | (rw [if_neg (by decide +kernel)]; exact ⟨rfl, rfl⟩)
set_option maxRecDepth 100000 in
theorem canonIdempotent_door (os : Os) (args : Array Value) : laidMetH Tryd.prog Rows.canonIdempotentRow.laid ((World.doorLaid Tryd.prog 400 os).forCall (fun _ _ => 0) ⟨#[], args, []⟩).memory :=
  laidMetH_of_parts3 (fuel := 8) (laidMet_of_run' 8 (by kernel_rfl) (by kernel_rfl)) (by kernel_rfl) (by kernel_rfl)
set_option maxRecDepth 100000 in
theorem canonIdempotent_lifted (os : Os) (started : os.Started) (H : Type) (enc : TypeId × Value → H) :
    ReturnsInHanded {} Tryd.checked os 10 .any (fun w args => (Rows.canonIdempotentSpec.pre enc Tryd.prog Tryd.f10 [] false w args ∧ laidMetH Tryd.prog Rows.canonIdempotentRow.laid w) ∧ sizedMet enc Tryd.prog Tryd.f10 (OpenSpec.ofChange Rows.canonIdempotentSpec) false w args) (Rows.canonIdempotentSpec.post enc Tryd.prog Tryd.f10 false true false false) := by
  refine returnsInHanded_of_change_and (C := Tryd.checked) (X := fun w _ => laidMetH Tryd.prog Rows.canonIdempotentRow.laid w) (fun _ _ _ hh h => h.of_heap hh) own started (by kernel_rfl) Tryd.func10
    (ChangeSpec.witness_shaped (enc := enc) (C := Tryd.checked) (os := os) (X := fun w _ => laidMetH Tryd.prog Rows.canonIdempotentRow.laid w) false (World.doorLaid Tryd.prog 400 os) #[.agg #[.slice none 0 0, .slice none 0 0, .int .i64 0]] 8 rfl (World.shaped_of_RefB (by kernel_rfl) (by kernel_rfl)) (by kernel_rfl) (by kernel_rfl) (by kernel_rfl) (canonIdempotent_door os _)) ?_
  intro W base args ds gs before hval0 hW hcnd _ hL _
  have hval : ∀ (j : Nat) t v, Tryd.f10.params[j]? = some t → args[j]? = some v → Value.okWide Tryd.prog W .any base t v := hval0
  have hW' := hW
  obtain ⟨p, q, hA0, hV, rfl, hfz, hnd⟩ := hW
  have hA : DataW.TrodAll enc Tryd.prog W 0 (fun _ => true) true Tryd.f10.params.toList args.toList ds p := hA0
  rw [Tryd.params10] at hA hval
  obtain ⟨v0, vs0, d0, ds0, p0, q0, hargs, rfl, rfl, h0, r0⟩ := trodAll_cons hA
  obtain ⟨rfl, rfl, rfl⟩ := trodAll_nil r0
  obtain rfl : args = #[v0] := by cases args; simp_all
  obtain ⟨rfl, rfl⟩ := trodVars_none hV
  obtain ⟨S0, M0, L0, aS0, aM0, cS0, cM0, rfl, hS0, hM0, lS0, lM0, wL0⟩ := open_diag (hval 0 24 v0 rfl rfl) h0
  have k0 := h0
  have lt0 : ∀ x ∈ p0, x.block < W.heap.size := by obtain ⟨m, hm⟩ := k0; exact DataW.trod_lt m _ _ _ hm
  clear hA0 hval0
  have hL2 : laidMet Tryd.prog Rows.canonIdempotentRow.laid W := hL
  have ht : Pow10 W := Lib.tabIs_of_head (g := 0) (t := 93) (e := 85) (n := 20) (by kernel_rfl) (by kernel_rfl) Tryd.underlying93 Tryd.underlying85 (by kernel_rfl) (by kernel_rfl) hL2.tail.tail
  refine (lidm_any S0 M0 L0 aS0 aM0 cS0 cM0 W ht lS0 lM0 wL0 hS0 hM0).mono fun e W' ⟨he, bel⟩ => ?_
  subst he
  exact ⟨_, rfl, _, _, _, [], _, [], hW', trodAll_mk1 (shut_bool Tryd.underlying4 _), (trodAll_cons_mk (Below.trod laidOut (by kernel_rfl) (of_decide_eq_true (by kernel_rfl)) k0 bel lt0) trodAll_mk0), rfl, bel.frame _, fun h => by cases h⟩
theorem canonIdempotent_row : Rows.CanonIdempotentSaid :=
  OpenClaim.holds_of_wide 10 Tryd.f10 rfl rfl rfl rfl rfl rfl rfl ⟨rfl, rfl, rfl, rfl, rfl⟩ rfl rfl rfl rfl rfl canonIdempotent_named Tryd.func10 canonIdempotent_closed canonIdempotent_inst canonIdempotent_wrap
    (fun os started H enc _ => canonIdempotent_lifted os started H enc)
theorem canonIdempotent_holds : Rows.CanonIdempotentCardSaid :=
  Claim7.holds_tied_plain_at .later [] [.data, .data, .data] true (true, "ecca1c5326bbd5663b8762b21df597a0e1f6b3c513ffeef2692957e3ec8b1300") false
    canonIdempotent_row (fun _ h => by cases h) (by kernel_rfl) (fun _ h => by cases h) canonIdempotent_row_tie rfl ⟨rfl, rfl⟩ (by kernel_rfl) rfl
    (fun f fn hf hfn => by
      obtain rfl : f = 10 := Option.some.inj (canonIdempotent_named.symm.trans hf) |>.symm
      obtain rfl : fn = Tryd.f10 := (Option.some.inj (Tryd.func10.symm.trans hfn)).symm
      exact ⟨by kernel_rfl, fun j t ht => by
        rw [Tryd.params10] at ht
        have hm : t ∈ [24] := by
          have := Array.mem_of_getElem? ht
          simpa using this
        have hall : ([24].all fun u => !Tryd.prog.wantsStandIn u) = true := by kernel_rfl
        exact (show Tryd.prog.wantsStandIn t = false by simpa using List.all_eq_true.1 hall t hm)⟩)
    (by kernel_rfl)
#print axioms canonIdempotent_holds
end Go.Proofs.YtmhhjchnjaefhaaDoor

