/- CanonInvariant: renumbering the crossings does not change the code, the key, the form, or the number of symmetries; for all diagrams and lists of numbers (the law itself looks at 20 crossings at most). -/
import Derived.Test.YtmhhjchnjaefhaaDoorCards
import Derived.Test.YtmhhjchnjaefhaaDoorTie
import Derived.LaidMore
import Derived.SevenTiedAt
import Derived.Stop.Joined
import Derived.Stop.LaidErr
import Derived.Lib.LaidTab
import Derived.WalkKit
import Derived.WalkSpells
import Derived.WalkLawsBesides
import Derived.Deep.AppendSrc
import Derived.Deep.LoopGhost
import Derived.Deep.QuietTactic
import Derived.Deep.RegionWith
import Derived.Deep.DeepMust
import Derived.Deep.DeepFit
import Derived.BigQuiet
import Derived.Lib.Hide
import Derived.Outline
import Derived.Test.YtmhhjchnjaefhaaDoorRows
import Derived.ProofKit
import Derived.OpenShut
import Derived.ShutString
import Derived.ChangeOld
import Derived.Below
import Derived.Lib.SmallJoins
import Derived.Test.YtmhhjchnjaefhaaDoorProg
import Derived.Deep.Matrix
import Derived.Deep.DeepCutAuto
import Derived.Deep.RegionLaw
import Derived.Deep.RegionHeld3
import Derived.Lib.SliceRun
import Derived.Shelf.Strings.Builder1
import Derived.Shelf.Small.Wraps
import Derived.Shelf.Strings.BuilderF
import Derived.Shelf.Strings.BuilderK
import Derived.Shelf.Strconv.Itoa0
import Derived.Shelf.Strconv.Itoa1
import Derived.Shelf.LaysM
import Derived.Shelf.Strconv.Itoa2
import Derived.Shelf.Strconv.Itoa3
import Derived.Shelf.Slices.Equal
import Derived.Ground.Names2Prog
import Derived.Shelf.Slices.Clone
import Derived.Shelf.Slices.SearchI
import Derived.Shelf.Slices.Empties2
import Derived.Ground.SlgnProg
import Derived.Shelf.SlicesE.Clone
import Derived.Sort.OwnSortedInts
import Derived.Shelf.Small.Bits
import Derived.Shelf.Sort.Plain
import Derived.Shelf.Slices.Turned
import Derived.Shelf.Slices.CompactI
import Derived.Shelf.Slices.Cells
import Derived.Shelf.Slices.In.SortNone
import Derived.Lib.AppendZeros
import Derived.Deep.RegionHeld
import Derived.Lib.Builder
import Derived.Lib.AppendStr
import Derived.Lib.Walk
import Derived.Laws.Externs
import Derived.Lib.AppendIntMem
import Derived.Test.YtmhhjchnjaefhaaDoorSAa
import Derived.Test.YtmhhjchnjaefhaaDoorSAb
import Derived.Test.YtmhhjchnjaefhaaDoorSAc
import Derived.Test.YtmhhjchnjaefhaaDoorSAd
import Derived.Test.YtmhhjchnjaefhaaDoorSAe
import Derived.Test.YtmhhjchnjaefhaaDoorSAf
import Derived.Test.YtmhhjchnjaefhaaDoorSAg
import Derived.Test.YtmhhjchnjaefhaaDoorSAh
import Derived.Test.YtmhhjchnjaefhaaDoorSAi
import Derived.Test.YtmhhjchnjaefhaaDoorSAj
import Derived.Test.YtmhhjchnjaefhaaDoorSAk
import Derived.Test.YtmhhjchnjaefhaaDoorSAl
import Derived.Test.YtmhhjchnjaefhaaDoorSAm
import Derived.Test.YtmhhjchnjaefhaaDoorSAn
import Derived.Test.YtmhhjchnjaefhaaDoorSAo
import Derived.Test.YtmhhjchnjaefhaaDoorSAp
import Derived.Test.YtmhhjchnjaefhaaDoorSAq
import Derived.Test.YtmhhjchnjaefhaaDoorSAr
import Derived.Test.YtmhhjchnjaefhaaDoorSAs
namespace Go.Proofs.YtmhhjchnjaefhaaDoor
open Go Go.RowKit Go.ChangeShapes Go.WideShapes Go.ChangeAt Go.Joins
theorem canonInvariant_k0 : (Rows.canonInvariantRow.wf (OpenSpec.ofChange Rows.canonInvariantSpec)) = true := by kernel_rfl
theorem canonInvariant_k3 : (Tryd.f7.params.all (Tryd.prog.readableRec ·)) = true := by kernel_rfl
theorem canonInvariant_k4 : (namedTie Tryd.prog Rows.canonInvariantRow.named Rows.canonInvariantSpec.vars) = true := by kernel_rfl
theorem canonInvariant_k5 : (Rows.canonInvariantRow.stops == []) = true := by kernel_rfl
theorem canonInvariant_k7 : (Rows.canonInvariantRow.knobs == []) = true := by kernel_rfl
theorem canonInvariant_k9 : (Rows.canonInvariantRow.inPlace == Tryd.prog.inPlace 7) = true := by kernel_rfl
theorem canonInvariant_k10 : (Rows.canonInvariantRow.unfollowed == Tryd.prog.unfollowed 7) = true := by kernel_rfl
theorem canonInvariant_k11 : (Rows.canonInvariantRow.recurses == Tryd.prog.recurses 7) = true := by kernel_rfl
theorem canonInvariant_k12 : (Rows.canonInvariantRow.named == Tryd.prog.varsNamed 7) = true := by kernel_rfl
theorem canonInvariant_k13 : (Rows.canonInvariantRow.maps == (Tryd.f7.params.toList ++ Rows.canonInvariantSpec.plain.varTypes Tryd.prog).any (Tryd.prog.mapsRec ·)) = true := by kernel_rfl
theorem canonInvariant_k14 : (Rows.canonInvariantRow.ifaces == (Tryd.f7.params.toList ++ Rows.canonInvariantSpec.plain.varTypes Tryd.prog).any (Tryd.prog.ifacesRec ·)) = true := by kernel_rfl
theorem canonInvariant_k15 : (Rows.canonInvariantRow.mapsOut == Tryd.prog.mapsAmong Tryd.f7.resultTypes.toList) = true := by kernel_rfl
theorem canonInvariant_k16 : (Rows.canonInvariantRow.loops == (Tryd.f7.params.toList ++ Rows.canonInvariantSpec.plain.varTypes Tryd.prog).any (Tryd.prog.loopsFrom ·)) = true := by kernel_rfl
theorem canonInvariant_k17 : (Rows.canonInvariantRow.wideKeys == (Tryd.f7.params.toList ++ Rows.canonInvariantSpec.plain.varTypes Tryd.prog ++ Tryd.f7.resultTypes.toList).any (Tryd.prog.wideKeysFrom ·)) = true := by kernel_rfl
theorem canonInvariant_k18 : (Rows.canonInvariantSpec.vars.all (Tryd.prog.varReadable ·)) = true := by kernel_rfl
theorem canonInvariant_k19 : (Tryd.f7.resultTypes.all (fun t => Tryd.prog.readableRec t && decide (t < Tryd.prog.types.size))) = true := by kernel_rfl
theorem canonInvariant_k20 : (Rows.canonInvariantRow.ifacesOut == Tryd.f7.resultTypes.toList.any (Tryd.prog.ifacesRec ·)) = true := by kernel_rfl
theorem canonInvariant_k21 : (Rows.canonInvariantRow.loopsOut == Tryd.f7.resultTypes.toList.any (Tryd.prog.loopsFrom ·)) = true := by kernel_rfl
theorem canonInvariant_k22 : (Rows.canonInvariantRow.plainKeys == Tryd.prog.plainKeys) = true := by rw [prog_keys]; rfl
theorem canonInvariant_k23 : (Rows.canonInvariantRow.shortTexts.isNone) = true := by kernel_rfl
theorem canonInvariant_k26 : (Rows.canonInvariantRow.lifted == Tryd.prog.liftsFinal) = true := by rw [prog_final]; rfl
theorem canonInvariant_k27 : (Tryd.prog.make == some Rows.canonInvariantRow.make) = true := by rw [prog_make]; rfl
theorem canonInvariant_k28 : (Rows.canonInvariantRow.kinds == (if Rows.canonInvariantRow.domain.isEmpty then [] else Tryd.f7.params.toList.map fun t => match Tryd.prog.underlying t with | some (.int k) => some k | _ => none)) = true := by kernel_rfl
theorem canonInvariant_k29 : (Rows.canonInvariantRow.pinned == Rows.canonInvariantRow.pinnedBy) = true := by kernel_rfl
theorem canonInvariant_k30 : (Rows.canonInvariantRow.veiled == (Tryd.f7.params.toList ++ Rows.canonInvariantSpec.plain.varTypes Tryd.prog ++ Tryd.f7.resultTypes.toList).any (Tryd.prog.veiledRec ·)) = true := by kernel_rfl
theorem canonInvariant_k31 : (Rows.canonInvariantRow.veiledFits Tryd.prog Tryd.f7.params.toList (Tryd.f7.params.toList ++ Rows.canonInvariantSpec.plain.varTypes Tryd.prog ++ Tryd.f7.resultTypes.toList)) = true := by kernel_rfl
set_option maxRecDepth 100000 in
theorem canonInvariant_closed : joinedFacts Tryd.prog 7 Tryd.f7 Rows.canonInvariantSpec Rows.canonInvariantRow = true := (and2 (and2 (and2 (and2 (and2 (and2 (and2 (and2 (and2 (and2 (and2 (and2 (and2 (and2 (and2 (and2 (and2 (and2 (and2 (and2 (and2 (and2 (and2 (and2 (and2 (and2 (and2 (and2 (and2 (and2 (and2 canonInvariant_k0 laidOut) prog_maps) canonInvariant_k3) canonInvariant_k4) canonInvariant_k5) prog_stops) canonInvariant_k7) prog_knobs) canonInvariant_k9) canonInvariant_k10) canonInvariant_k11) canonInvariant_k12) canonInvariant_k13) canonInvariant_k14) canonInvariant_k15) canonInvariant_k16) canonInvariant_k17) canonInvariant_k18) canonInvariant_k19) canonInvariant_k20) canonInvariant_k21) canonInvariant_k22) canonInvariant_k23) prog_heard) prog_enter) canonInvariant_k26) canonInvariant_k27) canonInvariant_k28) canonInvariant_k29) canonInvariant_k30) canonInvariant_k31)
theorem canonInvariant_named : Tryd.prog.funcNamed Rows.canonInvariantRow.func = some 7 := by kernel_rfl
theorem canonInvariant_inst : Tryd.f7.isInstance Tryd.prog Rows.canonInvariantRow.origin Rows.canonInvariantRow.targs := of_decide_eq_true (by kernel_rfl)
theorem canonInvariant_wrap : Tryd.f7.isWrapper Tryd.prog Rows.canonInvariantRow.wrapper Rows.canonInvariantRow.mainSum := by unfold Func.isWrapper; first | (rw [if_pos (by decide +kernel)]; kernel_rfl) | (rw [if_neg (by decide +kernel)]; exact ⟨rfl, rfl⟩)
set_option maxRecDepth 100000 in
theorem canonInvariant_door (os : Os) (args : Array Value) : laidMetH Tryd.prog Rows.canonInvariantRow.laid ((World.doorLaid Tryd.prog 400 os).forCall (fun _ _ => 0) ⟨#[], args, []⟩).memory :=
  laidMetH_of_parts3 (fuel := 8) (laidMet_of_run' 8 (by kernel_rfl) (by kernel_rfl)) (by kernel_rfl) (by kernel_rfl)
set_option maxRecDepth 100000 in
theorem canonInvariant_lifted (os : Os) (started : os.Started) (H : Type) (enc : TypeId × Value → H) :
    ReturnsInHanded {} Tryd.checked os 7 .any (fun w args => (Rows.canonInvariantSpec.pre enc Tryd.prog Tryd.f7 [] false w args ∧ laidMetH Tryd.prog Rows.canonInvariantRow.laid w) ∧ sizedMet enc Tryd.prog Tryd.f7 (OpenSpec.ofChange Rows.canonInvariantSpec) false w args) (Rows.canonInvariantSpec.post enc Tryd.prog Tryd.f7 false true false false) := by
  refine returnsInHanded_of_change_and (C := Tryd.checked) (X := fun w _ => laidMetH Tryd.prog Rows.canonInvariantRow.laid w) (fun _ _ _ hh h => h.of_heap hh) own started (by kernel_rfl) Tryd.func7
    (ChangeSpec.witness_shaped (enc := enc) (C := Tryd.checked) (os := os) (X := fun w _ => laidMetH Tryd.prog Rows.canonInvariantRow.laid w) false (World.doorLaid Tryd.prog 400 os) #[.agg #[.slice none 0 0, .slice none 0 0, .int .i64 0], .slice none 0 0] 8 rfl (World.shaped_of_RefB (by kernel_rfl) (by kernel_rfl)) (by kernel_rfl) (by kernel_rfl) (by kernel_rfl) (canonInvariant_door os _)) ?_
  intro W base args ds gs before hval0 hW hcnd _ hL _
  have hval : ∀ (j : Nat) t v, Tryd.f7.params[j]? = some t → args[j]? = some v → Value.okWide Tryd.prog W .any base t v := hval0
  have hW' := hW
  obtain ⟨p, q, hA0, hV, rfl, hfz, hnd⟩ := hW
  have hA : DataW.TrodAll enc Tryd.prog W 0 (fun _ => true) true Tryd.f7.params.toList args.toList ds p := hA0
  rw [Tryd.params7] at hA hval
  obtain ⟨v0, vs0, d0, ds0, p0, q0, hargs, rfl, rfl, h0, r0⟩ := trodAll_cons hA
  obtain ⟨v1, vs1, d1, ds1, p1, q1, rfl, rfl, rfl, h1, r1⟩ := trodAll_cons r0
  obtain ⟨rfl, rfl, rfl⟩ := trodAll_nil r1
  obtain rfl : args = #[v0, v1] := by cases args; simp_all
  obtain ⟨rfl, rfl⟩ := trodVars_none hV
  obtain ⟨S0, M0, L0, aS0, aM0, cS0, cM0, rfl, hS0, hM0, lS0, lM0, wL0⟩ := open_diag (hval 0 24 v0 rfl rfl) h0
  have k0 := h0
  have lt0 : ∀ x ∈ p0, x.block < W.heap.size := by obtain ⟨m, hm⟩ := k0; exact DataW.trod_lt m _ _ _ hm
  obtain ⟨X1, aX1, cX1, rfl, hX1, lX1⟩ := open_list (hval 1 22 v1 rfl rfl) h1
  have k1 := h1
  have lt1 : ∀ x ∈ p1, x.block < W.heap.size := by obtain ⟨m, hm⟩ := k1; exact DataW.trod_lt m _ _ _ hm
  clear hA0 hval0
  have hL2 : laidMet Tryd.prog Rows.canonInvariantRow.laid W := hL
  have ht : Pow10 W := Lib.tabIs_of_head (g := 0) (t := 93) (e := 85) (n := 20) (by kernel_rfl) (by kernel_rfl) Tryd.underlying93 Tryd.underlying85 (by kernel_rfl) (by kernel_rfl) hL2.tail.tail
  refine (linv_any S0 M0 L0 aS0 aM0 cS0 cM0 X1 aX1 cX1 W ht lS0 lM0 wL0 hS0 hM0 lX1 hX1).mono fun e W' ⟨he, bel⟩ => ?_
  subst he
  exact ⟨_, rfl, _, _, _, [], _, [], hW', trodAll_mk1 (shut_bool Tryd.underlying4 _), (trodAll_cons_mk (Below.trod laidOut (by kernel_rfl) (of_decide_eq_true (by kernel_rfl)) k0 bel lt0) (trodAll_cons_mk (Below.trod laidOut (by kernel_rfl) (of_decide_eq_true (by kernel_rfl)) k1 bel lt1) trodAll_mk0)), rfl, bel.frame _, fun h => by cases h⟩
theorem canonInvariant_row : Rows.CanonInvariantSaid :=
  OpenClaim.holds_of_wide 7 Tryd.f7 rfl rfl rfl rfl rfl rfl rfl ⟨rfl, rfl, rfl, rfl, rfl⟩ rfl rfl rfl rfl rfl canonInvariant_named Tryd.func7 canonInvariant_closed canonInvariant_inst canonInvariant_wrap
    (fun os started H enc _ => canonInvariant_lifted os started H enc)
theorem canonInvariant_holds : Rows.CanonInvariantCardSaid :=
  Claim7.holds_tied_plain_at .later [] [.data, .data, .data] true (true, "ecca1c5326bbd5663b8762b21df597a0e1f6b3c513ffeef2692957e3ec8b1300") false
    canonInvariant_row (fun _ h => by cases h) (by kernel_rfl) (fun _ h => by cases h) canonInvariant_row_tie rfl ⟨rfl, rfl⟩ (by kernel_rfl) rfl
    (fun f fn hf hfn => by
      obtain rfl : f = 7 := Option.some.inj (canonInvariant_named.symm.trans hf) |>.symm
      obtain rfl : fn = Tryd.f7 := (Option.some.inj (Tryd.func7.symm.trans hfn)).symm
      exact ⟨by kernel_rfl, fun j t ht => by
        rw [Tryd.params7] at ht
        have hm : t ∈ [24, 22] := by
          have := Array.mem_of_getElem? ht
          simpa using this
        have hall : ([24, 22].all fun u => !Tryd.prog.wantsStandIn u) = true := by kernel_rfl
        exact (show Tryd.prog.wantsStandIn t = false by simpa using List.all_eq_true.1 hall t hm)⟩)
    (by kernel_rfl)
#print axioms canonInvariant_holds
end Go.Proofs.YtmhhjchnjaefhaaDoor

