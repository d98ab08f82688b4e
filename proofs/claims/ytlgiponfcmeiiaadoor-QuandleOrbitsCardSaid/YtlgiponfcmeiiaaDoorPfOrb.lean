/- The law QuandleOrbits. -/
import Derived.Test.YtlgiponfcmeiiaaDoorFrame0
import Derived.Test.YtlgiponfcmeiiaaDoorCards
import Derived.Test.YtlgiponfcmeiiaaDoorTie
import Derived.LaidMore
import Derived.SevenTiedAt
import Derived.Stop.Joined
import Derived.Test.YtlgiponfcmeiiaaDoorLOrb
namespace Go.Proofs.YtlgiponfcmeiiaaDoor
open Go Go.RowKit Go.ChangeShapes Go.WideShapes Go.ChangeAt Go.Joins
theorem quandleOrbits_k0 : (Rows.quandleOrbitsRow.wf (OpenSpec.ofChange Rows.quandleOrbitsSpec)) = true := by kernel_rfl
theorem quandleOrbits_k3 : (Tryd.f5.params.all (Tryd.prog.readableRec ·)) = true := by kernel_rfl
theorem quandleOrbits_k4 : (namedTie Tryd.prog Rows.quandleOrbitsRow.named Rows.quandleOrbitsSpec.vars) = true := by kernel_rfl
theorem quandleOrbits_k5 : (Rows.quandleOrbitsRow.stops == []) = true := by kernel_rfl
theorem quandleOrbits_k7 : (Rows.quandleOrbitsRow.knobs == []) = true := by kernel_rfl
theorem quandleOrbits_k9 : (Rows.quandleOrbitsRow.inPlace == Tryd.prog.inPlace 5) = true := by kernel_rfl
theorem quandleOrbits_k10 : (Rows.quandleOrbitsRow.unfollowed == Tryd.prog.unfollowed 5) = true := by kernel_rfl
theorem quandleOrbits_k11 : (Rows.quandleOrbitsRow.recurses == Tryd.prog.recurses 5) = true := by kernel_rfl
theorem quandleOrbits_k12 : (Rows.quandleOrbitsRow.named == Tryd.prog.varsNamed 5) = true := by kernel_rfl
theorem quandleOrbits_k13 : (Rows.quandleOrbitsRow.maps == (Tryd.f5.params.toList ++ Rows.quandleOrbitsSpec.plain.varTypes Tryd.prog).any (Tryd.prog.mapsRec ·)) = true := by kernel_rfl
theorem quandleOrbits_k14 : (Rows.quandleOrbitsRow.ifaces == (Tryd.f5.params.toList ++ Rows.quandleOrbitsSpec.plain.varTypes Tryd.prog).any (Tryd.prog.ifacesRec ·)) = true := by kernel_rfl
theorem quandleOrbits_k15 : (Rows.quandleOrbitsRow.mapsOut == Tryd.prog.mapsAmong Tryd.f5.resultTypes.toList) = true := by kernel_rfl
theorem quandleOrbits_k16 : (Rows.quandleOrbitsRow.loops == (Tryd.f5.params.toList ++ Rows.quandleOrbitsSpec.plain.varTypes Tryd.prog).any (Tryd.prog.loopsFrom ·)) = true := by kernel_rfl
theorem quandleOrbits_k17 : (Rows.quandleOrbitsRow.wideKeys == (Tryd.f5.params.toList ++ Rows.quandleOrbitsSpec.plain.varTypes Tryd.prog ++ Tryd.f5.resultTypes.toList).any (Tryd.prog.wideKeysFrom ·)) = true := by kernel_rfl
theorem quandleOrbits_k18 : (Rows.quandleOrbitsSpec.vars.all (Tryd.prog.varReadable ·)) = true := by kernel_rfl
theorem quandleOrbits_k19 : (Tryd.f5.resultTypes.all (fun t => Tryd.prog.readableRec t && decide (t < Tryd.prog.types.size))) = true := by kernel_rfl
theorem quandleOrbits_k20 : (Rows.quandleOrbitsRow.ifacesOut == Tryd.f5.resultTypes.toList.any (Tryd.prog.ifacesRec ·)) = true := by kernel_rfl
theorem quandleOrbits_k21 : (Rows.quandleOrbitsRow.loopsOut == Tryd.f5.resultTypes.toList.any (Tryd.prog.loopsFrom ·)) = true := by kernel_rfl
theorem quandleOrbits_k22 : (Rows.quandleOrbitsRow.plainKeys == Tryd.prog.plainKeys) = true := by rw [prog_keys]; rfl
theorem quandleOrbits_k23 : (Rows.quandleOrbitsRow.shortTexts.isNone) = true := by kernel_rfl
theorem quandleOrbits_k26 : (Rows.quandleOrbitsRow.lifted == Tryd.prog.liftsFinal) = true := by rw [prog_final]; rfl
theorem quandleOrbits_k27 : (Tryd.prog.make == some Rows.quandleOrbitsRow.make) = true := by rw [prog_make]; rfl
theorem quandleOrbits_k28 : (Rows.quandleOrbitsRow.kinds == (if Rows.quandleOrbitsRow.domain.isEmpty then [] else Tryd.f5.params.toList.map fun t => match Tryd.prog.underlying t with | some (.int k) => some k | _ => none)) = true := by kernel_rfl
theorem quandleOrbits_k29 : (Rows.quandleOrbitsRow.pinned == Rows.quandleOrbitsRow.pinnedBy) = true := by kernel_rfl
theorem quandleOrbits_k30 : (Rows.quandleOrbitsRow.veiled == (Tryd.f5.params.toList ++ Rows.quandleOrbitsSpec.plain.varTypes Tryd.prog ++ Tryd.f5.resultTypes.toList).any (Tryd.prog.veiledRec ·)) = true := by kernel_rfl
theorem quandleOrbits_k31 : (Rows.quandleOrbitsRow.veiledFits Tryd.prog Tryd.f5.params.toList (Tryd.f5.params.toList ++ Rows.quandleOrbitsSpec.plain.varTypes Tryd.prog ++ Tryd.f5.resultTypes.toList)) = true := by kernel_rfl
set_option maxRecDepth 100000 in
theorem quandleOrbits_closed : joinedFacts Tryd.prog 5 Tryd.f5 Rows.quandleOrbitsSpec Rows.quandleOrbitsRow = true := (and2 (and2 (and2 (and2 (and2 (and2 (and2 (and2 (and2 (and2 (and2 (and2 (and2 (and2 (and2 (and2 (and2 (and2 (and2 (and2 (and2 (and2 (and2 (and2 (and2 (and2 (and2 (and2 (and2 (and2 (and2 quandleOrbits_k0 laidOut) prog_maps) quandleOrbits_k3) quandleOrbits_k4) quandleOrbits_k5) prog_stops) quandleOrbits_k7) prog_knobs) quandleOrbits_k9) quandleOrbits_k10) quandleOrbits_k11) quandleOrbits_k12) quandleOrbits_k13) quandleOrbits_k14) quandleOrbits_k15) quandleOrbits_k16) quandleOrbits_k17) quandleOrbits_k18) quandleOrbits_k19) quandleOrbits_k20) quandleOrbits_k21) quandleOrbits_k22) quandleOrbits_k23) prog_heard) prog_enter) quandleOrbits_k26) quandleOrbits_k27) quandleOrbits_k28) quandleOrbits_k29) quandleOrbits_k30) quandleOrbits_k31)
theorem quandleOrbits_named : Tryd.prog.funcNamed Rows.quandleOrbitsRow.func = some 5 := by kernel_rfl
theorem quandleOrbits_inst : Tryd.f5.isInstance Tryd.prog Rows.quandleOrbitsRow.origin Rows.quandleOrbitsRow.targs := of_decide_eq_true (by kernel_rfl)
theorem quandleOrbits_wrap : Tryd.f5.isWrapper Tryd.prog Rows.quandleOrbitsRow.wrapper Rows.quandleOrbitsRow.mainSum := by unfold Func.isWrapper; first | (rw [if_pos (by decide +kernel)]; kernel_rfl) | (rw [if_neg (by decide +kernel)]; exact ⟨rfl, rfl⟩)
set_option maxRecDepth 100000 in
theorem quandleOrbits_door (os : Os) (args : Array Value) : laidMetH Tryd.prog Rows.quandleOrbitsRow.laid ((World.doorLaid Tryd.prog 400 os).forCall (fun _ _ => 0) ⟨#[], args, []⟩).memory :=
  laidMetH_of_parts3 (fuel := 8) (laidMet_of_run' 8 (by kernel_rfl) (by kernel_rfl)) (by kernel_rfl) (by kernel_rfl)
set_option maxRecDepth 100000 in
theorem quandleOrbits_lifted (os : Os) (started : os.Started) (H : Type) (enc : TypeId × Value → H) :
    ReturnsInHanded {} Tryd.checked os 5 .any (fun w args => (Rows.quandleOrbitsSpec.pre enc Tryd.prog Tryd.f5 [] false w args ∧ laidMetH Tryd.prog Rows.quandleOrbitsRow.laid w) ∧ sizedMet enc Tryd.prog Tryd.f5 (OpenSpec.ofChange Rows.quandleOrbitsSpec) false w args) (Rows.quandleOrbitsSpec.post enc Tryd.prog Tryd.f5 false true false false) := by
  refine returnsInHanded_of_change_and (C := Tryd.checked) (X := fun w _ => laidMetH Tryd.prog Rows.quandleOrbitsRow.laid w) (fun _ _ _ hh h => h.of_heap hh) own started (by kernel_rfl) Tryd.func5
    (ChangeSpec.witness_shaped (enc := enc) (C := Tryd.checked) (os := os) (X := fun w _ => laidMetH Tryd.prog Rows.quandleOrbitsRow.laid w) false (World.doorLaid Tryd.prog 400 os) #[.slice none 0 0] 8 rfl (World.shaped_of_RefB (by kernel_rfl) (by kernel_rfl)) (by kernel_rfl) (by kernel_rfl) (by kernel_rfl) (quandleOrbits_door os _)) ?_
  intro W base args ds gs before hval0 hW hcnd _ hL _
  have hval : ∀ (j : Nat) t v, Tryd.f5.params[j]? = some t → args[j]? = some v → Value.okWide Tryd.prog W .any base t v := hval0
  have hW' := hW
  obtain ⟨p, q, hA0, hV, rfl, hfz, hnd⟩ := hW
  have hA : DataW.TrodAll enc Tryd.prog W 0 (fun _ => true) true Tryd.f5.params.toList args.toList ds p := hA0
  rw [Tryd.params5] at hA hval
  obtain ⟨v0, vs0, d0, ds0, p0, q0, hargs, rfl, rfl, h0, r0⟩ := trodAll_cons hA
  obtain ⟨rfl, rfl, rfl⟩ := trodAll_nil r0
  obtain rfl : args = #[v0] := by cases args; simp_all
  obtain ⟨rfl, rfl⟩ := trodVars_none hV
  obtain ⟨T0, aT0, cT0, rfl, hT0, lT0, lR0, lC0⟩ := open_tab (hval 0 23 v0 rfl rfl) h0
  have k0 := h0
  have lt0 : ∀ x ∈ p0, x.block < W.heap.size := by obtain ⟨m, hm⟩ := k0; exact DataW.trod_lt m _ _ _ hm
  clear hA0 hval0
  refine (lorb_any T0 aT0 cT0 W hT0).mono fun e W' ⟨he, bel⟩ => ?_
  subst he
  exact ⟨_, rfl, _, _, _, [], _, [], hW', trodAll_mk1 (shut_bool Tryd.underlying4 _), (trodAll_cons_mk (Below.trod laidOut (by kernel_rfl) (of_decide_eq_true (by kernel_rfl)) k0 bel lt0) trodAll_mk0), rfl, bel.frame _, fun h => by cases h⟩
theorem quandleOrbits_row : Rows.QuandleOrbitsSaid :=
  OpenClaim.holds_of_wide 5 Tryd.f5 rfl rfl rfl rfl rfl rfl rfl ⟨rfl, rfl, rfl, rfl, rfl⟩ rfl rfl rfl rfl rfl quandleOrbits_named Tryd.func5 quandleOrbits_closed quandleOrbits_inst quandleOrbits_wrap
    (fun os started H enc _ => quandleOrbits_lifted os started H enc)
theorem quandleOrbits_holds : Rows.QuandleOrbitsCardSaid :=
  Claim7.holds_tied_plain_at .later [] [.data, .data, .data] true (true, "80a1b384fda0cb5ff6f79141b5cb5edcab0e3e35b331f8e81d08cf96b960c75e") false
    quandleOrbits_row (fun _ h => by cases h) (by kernel_rfl) (fun _ h => by cases h) quandleOrbits_row_tie rfl ⟨rfl, rfl⟩ (by kernel_rfl) rfl
    (fun f fn hf hfn => by
      obtain rfl : f = 5 := Option.some.inj (quandleOrbits_named.symm.trans hf) |>.symm
      obtain rfl : fn = Tryd.f5 := (Option.some.inj (Tryd.func5.symm.trans hfn)).symm
      exact ⟨by kernel_rfl, fun j t ht => by
        rw [Tryd.params5] at ht
        have hm : t ∈ [23] := by
          have := Array.mem_of_getElem? ht
          simpa using this
        have hall : ([23].all fun u => !Tryd.prog.wantsStandIn u) = true := by kernel_rfl
        exact (show Tryd.prog.wantsStandIn t = false by simpa using List.all_eq_true.1 hall t hm)⟩)
    (by kernel_rfl)
#print axioms quandleOrbits_holds
end Go.Proofs.YtlgiponfcmeiiaaDoor
