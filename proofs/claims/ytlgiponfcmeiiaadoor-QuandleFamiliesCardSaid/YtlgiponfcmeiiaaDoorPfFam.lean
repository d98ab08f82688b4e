/- The law QuandleFamilies. -/
import Derived.Test.YtlgiponfcmeiiaaDoorFrame0
import Derived.Test.YtlgiponfcmeiiaaDoorCards
import Derived.Test.YtlgiponfcmeiiaaDoorTie
import Derived.LaidMore
import Derived.SevenTiedAt
import Derived.Stop.Joined
import Derived.Test.YtlgiponfcmeiiaaDoorLFam
namespace Go.Proofs.YtlgiponfcmeiiaaDoor
open Go Go.RowKit Go.ChangeShapes Go.WideShapes Go.ChangeAt Go.Joins
theorem quandleFamilies_k0 : (Rows.quandleFamiliesRow.wf (OpenSpec.ofChange Rows.quandleFamiliesSpec)) = true := by kernel_rfl
theorem quandleFamilies_k3 : (Tryd.f3.params.all (Tryd.prog.readableRec ·)) = true := by kernel_rfl
theorem quandleFamilies_k4 : (namedTie Tryd.prog Rows.quandleFamiliesRow.named Rows.quandleFamiliesSpec.vars) = true := by kernel_rfl
theorem quandleFamilies_k5 : (Rows.quandleFamiliesRow.stops == []) = true := by kernel_rfl
theorem quandleFamilies_k7 : (Rows.quandleFamiliesRow.knobs == []) = true := by kernel_rfl
theorem quandleFamilies_k9 : (Rows.quandleFamiliesRow.inPlace == Tryd.prog.inPlace 3) = true := by kernel_rfl
theorem quandleFamilies_k10 : (Rows.quandleFamiliesRow.unfollowed == Tryd.prog.unfollowed 3) = true := by kernel_rfl
theorem quandleFamilies_k11 : (Rows.quandleFamiliesRow.recurses == Tryd.prog.recurses 3) = true := by kernel_rfl
theorem quandleFamilies_k12 : (Rows.quandleFamiliesRow.named == Tryd.prog.varsNamed 3) = true := by kernel_rfl
theorem quandleFamilies_k13 : (Rows.quandleFamiliesRow.maps == (Tryd.f3.params.toList ++ Rows.quandleFamiliesSpec.plain.varTypes Tryd.prog).any (Tryd.prog.mapsRec ·)) = true := by kernel_rfl
theorem quandleFamilies_k14 : (Rows.quandleFamiliesRow.ifaces == (Tryd.f3.params.toList ++ Rows.quandleFamiliesSpec.plain.varTypes Tryd.prog).any (Tryd.prog.ifacesRec ·)) = true := by kernel_rfl
theorem quandleFamilies_k15 : (Rows.quandleFamiliesRow.mapsOut == Tryd.prog.mapsAmong Tryd.f3.resultTypes.toList) = true := by kernel_rfl
theorem quandleFamilies_k16 : (Rows.quandleFamiliesRow.loops == (Tryd.f3.params.toList ++ Rows.quandleFamiliesSpec.plain.varTypes Tryd.prog).any (Tryd.prog.loopsFrom ·)) = true := by kernel_rfl
theorem quandleFamilies_k17 : (Rows.quandleFamiliesRow.wideKeys == (Tryd.f3.params.toList ++ Rows.quandleFamiliesSpec.plain.varTypes Tryd.prog ++ Tryd.f3.resultTypes.toList).any (Tryd.prog.wideKeysFrom ·)) = true := by kernel_rfl
theorem quandleFamilies_k18 : (Rows.quandleFamiliesSpec.vars.all (Tryd.prog.varReadable ·)) = true := by kernel_rfl
theorem quandleFamilies_k19 : (Tryd.f3.resultTypes.all (fun t => Tryd.prog.readableRec t && decide (t < Tryd.prog.types.size))) = true := by kernel_rfl
theorem quandleFamilies_k20 : (Rows.quandleFamiliesRow.ifacesOut == Tryd.f3.resultTypes.toList.any (Tryd.prog.ifacesRec ·)) = true := by kernel_rfl
theorem quandleFamilies_k21 : (Rows.quandleFamiliesRow.loopsOut == Tryd.f3.resultTypes.toList.any (Tryd.prog.loopsFrom ·)) = true := by kernel_rfl
theorem quandleFamilies_k22 : (Rows.quandleFamiliesRow.plainKeys == Tryd.prog.plainKeys) = true := by rw [prog_keys]; rfl
theorem quandleFamilies_k23 : (Rows.quandleFamiliesRow.shortTexts.isNone) = true := by kernel_rfl
theorem quandleFamilies_k26 : (Rows.quandleFamiliesRow.lifted == Tryd.prog.liftsFinal) = true := by rw [prog_final]; rfl
theorem quandleFamilies_k27 : (Tryd.prog.make == some Rows.quandleFamiliesRow.make) = true := by rw [prog_make]; rfl
theorem quandleFamilies_k28 : (Rows.quandleFamiliesRow.kinds == (if Rows.quandleFamiliesRow.domain.isEmpty then [] else Tryd.f3.params.toList.map fun t => match Tryd.prog.underlying t with | some (.int k) => some k | _ => none)) = true := by kernel_rfl
theorem quandleFamilies_k29 : (Rows.quandleFamiliesRow.pinned == Rows.quandleFamiliesRow.pinnedBy) = true := by kernel_rfl
theorem quandleFamilies_k30 : (Rows.quandleFamiliesRow.veiled == (Tryd.f3.params.toList ++ Rows.quandleFamiliesSpec.plain.varTypes Tryd.prog ++ Tryd.f3.resultTypes.toList).any (Tryd.prog.veiledRec ·)) = true := by kernel_rfl
theorem quandleFamilies_k31 : (Rows.quandleFamiliesRow.veiledFits Tryd.prog Tryd.f3.params.toList (Tryd.f3.params.toList ++ Rows.quandleFamiliesSpec.plain.varTypes Tryd.prog ++ Tryd.f3.resultTypes.toList)) = true := by kernel_rfl
set_option maxRecDepth 100000 in
theorem quandleFamilies_closed : joinedFacts Tryd.prog 3 Tryd.f3 Rows.quandleFamiliesSpec Rows.quandleFamiliesRow = true := (and2 (and2 (and2 (and2 (and2 (and2 (and2 (and2 (and2 (and2 (and2 (and2 (and2 (and2 (and2 (and2 (and2 (and2 (and2 (and2 (and2 (and2 (and2 (and2 (and2 (and2 (and2 (and2 (and2 (and2 (and2 quandleFamilies_k0 laidOut) prog_maps) quandleFamilies_k3) quandleFamilies_k4) quandleFamilies_k5) prog_stops) quandleFamilies_k7) prog_knobs) quandleFamilies_k9) quandleFamilies_k10) quandleFamilies_k11) quandleFamilies_k12) quandleFamilies_k13) quandleFamilies_k14) quandleFamilies_k15) quandleFamilies_k16) quandleFamilies_k17) quandleFamilies_k18) quandleFamilies_k19) quandleFamilies_k20) quandleFamilies_k21) quandleFamilies_k22) quandleFamilies_k23) prog_heard) prog_enter) quandleFamilies_k26) quandleFamilies_k27) quandleFamilies_k28) quandleFamilies_k29) quandleFamilies_k30) quandleFamilies_k31)
theorem quandleFamilies_named : Tryd.prog.funcNamed Rows.quandleFamiliesRow.func = some 3 := by kernel_rfl
theorem quandleFamilies_inst : Tryd.f3.isInstance Tryd.prog Rows.quandleFamiliesRow.origin Rows.quandleFamiliesRow.targs := of_decide_eq_true (by kernel_rfl)
theorem quandleFamilies_wrap : Tryd.f3.isWrapper Tryd.prog Rows.quandleFamiliesRow.wrapper Rows.quandleFamiliesRow.mainSum := by unfold Func.isWrapper; first | (rw [if_pos (by decide +kernel)]; kernel_rfl) | (rw [if_neg (by decide +kernel)]; exact ⟨rfl, rfl⟩)
set_option maxRecDepth 100000 in
theorem quandleFamilies_door (os : Os) (args : Array Value) : laidMetH Tryd.prog Rows.quandleFamiliesRow.laid ((World.doorLaid Tryd.prog 400 os).forCall (fun _ _ => 0) ⟨#[], args, []⟩).memory :=
  laidMetH_of_parts3 (fuel := 8) (laidMet_of_run' 8 (by kernel_rfl) (by kernel_rfl)) (by kernel_rfl) (by kernel_rfl)
set_option maxRecDepth 100000 in
theorem quandleFamilies_lifted (os : Os) (started : os.Started) (H : Type) (enc : TypeId × Value → H) :
    ReturnsInHanded {} Tryd.checked os 3 .any (fun w args => (Rows.quandleFamiliesSpec.pre enc Tryd.prog Tryd.f3 [] false w args ∧ laidMetH Tryd.prog Rows.quandleFamiliesRow.laid w) ∧ sizedMet enc Tryd.prog Tryd.f3 (OpenSpec.ofChange Rows.quandleFamiliesSpec) false w args) (Rows.quandleFamiliesSpec.post enc Tryd.prog Tryd.f3 false true false false) := by
  refine returnsInHanded_of_change_and (C := Tryd.checked) (X := fun w _ => laidMetH Tryd.prog Rows.quandleFamiliesRow.laid w) (fun _ _ _ hh h => h.of_heap hh) own started (by kernel_rfl) Tryd.func3
    (ChangeSpec.witness_shaped (enc := enc) (C := Tryd.checked) (os := os) (X := fun w _ => laidMetH Tryd.prog Rows.quandleFamiliesRow.laid w) false (World.doorLaid Tryd.prog 400 os) #[.int .i64 0, .int .i64 0] 8 rfl (World.shaped_of_RefB (by kernel_rfl) (by kernel_rfl)) (by kernel_rfl) (by kernel_rfl) (by kernel_rfl) (quandleFamilies_door os _)) ?_
  intro W base args ds gs before hval0 hW hcnd _ hL _
  have hval : ∀ (j : Nat) t v, Tryd.f3.params[j]? = some t → args[j]? = some v → Value.okWide Tryd.prog W .any base t v := hval0
  have hW' := hW
  obtain ⟨p, q, hA0, hV, rfl, hfz, hnd⟩ := hW
  have hA : DataW.TrodAll enc Tryd.prog W 0 (fun _ => true) true Tryd.f3.params.toList args.toList ds p := hA0
  rw [Tryd.params3] at hA hval
  obtain ⟨v0, vs0, d0, ds0, p0, q0, hargs, rfl, rfl, h0, r0⟩ := trodAll_cons hA
  obtain ⟨v1, vs1, d1, ds1, p1, q1, rfl, rfl, rfl, h1, r1⟩ := trodAll_cons r0
  obtain ⟨rfl, rfl, rfl⟩ := trodAll_nil r1
  obtain rfl : args = #[v0, v1] := by cases args; simp_all
  obtain ⟨rfl, rfl⟩ := trodVars_none hV
  obtain ⟨i0, rfl, rfl, rfl, w0⟩ := open_int Tryd.underlying3 (hval 0 3 v0 rfl rfl) h0
  obtain ⟨i1, rfl, rfl, rfl, w1⟩ := open_int Tryd.underlying3 (hval 1 3 v1 rfl rfl) h1
  clear hA0 hval0
  refine (lfam_any i0 i1 W w0 w1).mono fun e W' ⟨he, bel⟩ => ?_
  subst he
  exact ⟨_, rfl, _, _, _, [], _, [], hW', trodAll_mk1 (shut_bool Tryd.underlying4 _), (trodAll_cons_mk (shut_int Tryd.underlying3 w0) (trodAll_cons_mk (shut_int Tryd.underlying3 w1) trodAll_mk0)), rfl, bel.frame _, fun h => by cases h⟩
theorem quandleFamilies_row : Rows.QuandleFamiliesSaid :=
  OpenClaim.holds_of_wide 3 Tryd.f3 rfl rfl rfl rfl rfl rfl rfl ⟨rfl, rfl, rfl, rfl, rfl⟩ rfl rfl rfl rfl rfl quandleFamilies_named Tryd.func3 quandleFamilies_closed quandleFamilies_inst quandleFamilies_wrap
    (fun os started H enc _ => quandleFamilies_lifted os started H enc)
theorem quandleFamilies_holds : Rows.QuandleFamiliesCardSaid :=
  Claim7.holds_tied_plain_at .later [] [.data, .data, .data] true (true, "80a1b384fda0cb5ff6f79141b5cb5edcab0e3e35b331f8e81d08cf96b960c75e") false
    quandleFamilies_row (fun _ h => by cases h) (by kernel_rfl) (fun _ h => by cases h) quandleFamilies_row_tie rfl ⟨rfl, rfl⟩ (by kernel_rfl) rfl
    (fun f fn hf hfn => by
      obtain rfl : f = 3 := Option.some.inj (quandleFamilies_named.symm.trans hf) |>.symm
      obtain rfl : fn = Tryd.f3 := (Option.some.inj (Tryd.func3.symm.trans hfn)).symm
      exact ⟨by kernel_rfl, fun j t ht => by
        rw [Tryd.params3] at ht
        have hm : t ∈ [3] := by
          have := Array.mem_of_getElem? ht
          simpa using this
        have hall : ([3].all fun u => !Tryd.prog.wantsStandIn u) = true := by kernel_rfl
        exact (show Tryd.prog.wantsStandIn t = false by simpa using List.all_eq_true.1 hall t hm)⟩)
    (by kernel_rfl)
#print axioms quandleFamilies_holds
end Go.Proofs.YtlgiponfcmeiiaaDoor
