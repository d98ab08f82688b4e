/- The law QuandleValid. -/
import Derived.Test.YtlgiponfcmeiiaaDoorFrame0
import Derived.Test.YtlgiponfcmeiiaaDoorCards
import Derived.Test.YtlgiponfcmeiiaaDoorTie
import Derived.LaidMore
import Derived.SevenTiedAt
import Derived.Stop.Joined
import Derived.Test.YtlgiponfcmeiiaaDoorLVld
namespace Go.Proofs.YtlgiponfcmeiiaaDoor
open Go Go.RowKit Go.ChangeShapes Go.WideShapes Go.ChangeAt Go.Joins
theorem quandleValid_k0 : (Rows.quandleValidRow.wf (OpenSpec.ofChange Rows.quandleValidSpec)) = true := by kernel_rfl
theorem quandleValid_k3 : (Tryd.f8.params.all (Tryd.prog.readableRec ·)) = true := by kernel_rfl
theorem quandleValid_k4 : (namedTie Tryd.prog Rows.quandleValidRow.named Rows.quandleValidSpec.vars) = true := by kernel_rfl
theorem quandleValid_k5 : (Rows.quandleValidRow.stops == []) = true := by kernel_rfl
theorem quandleValid_k7 : (Rows.quandleValidRow.knobs == []) = true := by kernel_rfl
theorem quandleValid_k9 : (Rows.quandleValidRow.inPlace == Tryd.prog.inPlace 8) = true := by kernel_rfl
theorem quandleValid_k10 : (Rows.quandleValidRow.unfollowed == Tryd.prog.unfollowed 8) = true := by kernel_rfl
theorem quandleValid_k11 : (Rows.quandleValidRow.recurses == Tryd.prog.recurses 8) = true := by kernel_rfl
theorem quandleValid_k12 : (Rows.quandleValidRow.named == Tryd.prog.varsNamed 8) = true := by kernel_rfl
theorem quandleValid_k13 : (Rows.quandleValidRow.maps == (Tryd.f8.params.toList ++ Rows.quandleValidSpec.plain.varTypes Tryd.prog).any (Tryd.prog.mapsRec ·)) = true := by kernel_rfl
theorem quandleValid_k14 : (Rows.quandleValidRow.ifaces == (Tryd.f8.params.toList ++ Rows.quandleValidSpec.plain.varTypes Tryd.prog).any (Tryd.prog.ifacesRec ·)) = true := by kernel_rfl
theorem quandleValid_k15 : (Rows.quandleValidRow.mapsOut == Tryd.prog.mapsAmong Tryd.f8.resultTypes.toList) = true := by kernel_rfl
theorem quandleValid_k16 : (Rows.quandleValidRow.loops == (Tryd.f8.params.toList ++ Rows.quandleValidSpec.plain.varTypes Tryd.prog).any (Tryd.prog.loopsFrom ·)) = true := by kernel_rfl
theorem quandleValid_k17 : (Rows.quandleValidRow.wideKeys == (Tryd.f8.params.toList ++ Rows.quandleValidSpec.plain.varTypes Tryd.prog ++ Tryd.f8.resultTypes.toList).any (Tryd.prog.wideKeysFrom ·)) = true := by kernel_rfl
theorem quandleValid_k18 : (Rows.quandleValidSpec.vars.all (Tryd.prog.varReadable ·)) = true := by kernel_rfl
theorem quandleValid_k19 : (Tryd.f8.resultTypes.all (fun t => Tryd.prog.readableRec t && decide (t < Tryd.prog.types.size))) = true := by kernel_rfl
theorem quandleValid_k20 : (Rows.quandleValidRow.ifacesOut == Tryd.f8.resultTypes.toList.any (Tryd.prog.ifacesRec ·)) = true := by kernel_rfl
theorem quandleValid_k21 : (Rows.quandleValidRow.loopsOut == Tryd.f8.resultTypes.toList.any (Tryd.prog.loopsFrom ·)) = true := by kernel_rfl
theorem quandleValid_k22 : (Rows.quandleValidRow.plainKeys == Tryd.prog.plainKeys) = true := by rw [prog_keys]; rfl
theorem quandleValid_k23 : (Rows.quandleValidRow.shortTexts.isNone) = true := by kernel_rfl
theorem quandleValid_k26 : (Rows.quandleValidRow.lifted == Tryd.prog.liftsFinal) = true := by rw [prog_final]; rfl
theorem quandleValid_k27 : (Tryd.prog.make == some Rows.quandleValidRow.make) = true := by rw [prog_make]; rfl
theorem quandleValid_k28 : (Rows.quandleValidRow.kinds == (if Rows.quandleValidRow.domain.isEmpty then [] else Tryd.f8.params.toList.map fun t => match Tryd.prog.underlying t with | some (.int k) => some k | _ => none)) = true := by kernel_rfl
theorem quandleValid_k29 : (Rows.quandleValidRow.pinned == Rows.quandleValidRow.pinnedBy) = true := by kernel_rfl
theorem quandleValid_k30 : (Rows.quandleValidRow.veiled == (Tryd.f8.params.toList ++ Rows.quandleValidSpec.plain.varTypes Tryd.prog ++ Tryd.f8.resultTypes.toList).any (Tryd.prog.veiledRec ·)) = true := by kernel_rfl
theorem quandleValid_k31 : (Rows.quandleValidRow.veiledFits Tryd.prog Tryd.f8.params.toList (Tryd.f8.params.toList ++ Rows.quandleValidSpec.plain.varTypes Tryd.prog ++ Tryd.f8.resultTypes.toList)) = true := by kernel_rfl
set_option maxRecDepth 100000 in
theorem quandleValid_closed : joinedFacts Tryd.prog 8 Tryd.f8 Rows.quandleValidSpec Rows.quandleValidRow = true := (and2 (and2 (and2 (and2 (and2 (and2 (and2 (and2 (and2 (and2 (and2 (and2 (and2 (and2 (and2 (and2 (and2 (and2 (and2 (and2 (and2 (and2 (and2 (and2 (and2 (and2 (and2 (and2 (and2 (and2 (and2 quandleValid_k0 laidOut) prog_maps) quandleValid_k3) quandleValid_k4) quandleValid_k5) prog_stops) quandleValid_k7) prog_knobs) quandleValid_k9) quandleValid_k10) quandleValid_k11) quandleValid_k12) quandleValid_k13) quandleValid_k14) quandleValid_k15) quandleValid_k16) quandleValid_k17) quandleValid_k18) quandleValid_k19) quandleValid_k20) quandleValid_k21) quandleValid_k22) quandleValid_k23) prog_heard) prog_enter) quandleValid_k26) quandleValid_k27) quandleValid_k28) quandleValid_k29) quandleValid_k30) quandleValid_k31)
theorem quandleValid_named : Tryd.prog.funcNamed Rows.quandleValidRow.func = some 8 := by kernel_rfl
theorem quandleValid_inst : Tryd.f8.isInstance Tryd.prog Rows.quandleValidRow.origin Rows.quandleValidRow.targs := of_decide_eq_true (by kernel_rfl)
theorem quandleValid_wrap : Tryd.f8.isWrapper Tryd.prog Rows.quandleValidRow.wrapper Rows.quandleValidRow.mainSum := by unfold Func.isWrapper; first | (rw [if_pos (by decide +kernel)]; kernel_rfl) | (rw [if_neg (by decide +kernel)]; exact ⟨rfl, rfl⟩)
set_option maxRecDepth 100000 in
theorem quandleValid_door (os : Os) (args : Array Value) : laidMetH Tryd.prog Rows.quandleValidRow.laid ((World.doorLaid Tryd.prog 400 os).forCall (fun _ _ => 0) ⟨#[], args, []⟩).memory :=
  laidMetH_of_parts3 (fuel := 8) (laidMet_of_run' 8 (by kernel_rfl) (by kernel_rfl)) (by kernel_rfl) (by kernel_rfl)
set_option maxRecDepth 100000 in
theorem quandleValid_lifted (os : Os) (started : os.Started) (H : Type) (enc : TypeId × Value → H) :
    ReturnsInHanded {} Tryd.checked os 8 .any (fun w args => (Rows.quandleValidSpec.pre enc Tryd.prog Tryd.f8 [] false w args ∧ laidMetH Tryd.prog Rows.quandleValidRow.laid w) ∧ sizedMet enc Tryd.prog Tryd.f8 (OpenSpec.ofChange Rows.quandleValidSpec) false w args) (Rows.quandleValidSpec.post enc Tryd.prog Tryd.f8 false true false false) := by
  refine returnsInHanded_of_change_and (C := Tryd.checked) (X := fun w _ => laidMetH Tryd.prog Rows.quandleValidRow.laid w) (fun _ _ _ hh h => h.of_heap hh) own started (by kernel_rfl) Tryd.func8
    (ChangeSpec.witness_shaped (enc := enc) (C := Tryd.checked) (os := os) (X := fun w _ => laidMetH Tryd.prog Rows.quandleValidRow.laid w) false (World.doorLaid Tryd.prog 400 os) #[.slice none 0 0] 8 rfl (World.shaped_of_RefB (by kernel_rfl) (by kernel_rfl)) (by kernel_rfl) (by kernel_rfl) (by kernel_rfl) (quandleValid_door os _)) ?_
  intro W base args ds gs before hval0 hW hcnd _ hL _
  have hval : ∀ (j : Nat) t v, Tryd.f8.params[j]? = some t → args[j]? = some v → Value.okWide Tryd.prog W .any base t v := hval0
  have hW' := hW
  obtain ⟨p, q, hA0, hV, rfl, hfz, hnd⟩ := hW
  have hA : DataW.TrodAll enc Tryd.prog W 0 (fun _ => true) true Tryd.f8.params.toList args.toList ds p := hA0
  rw [Tryd.params8] at hA hval
  obtain ⟨v0, vs0, d0, ds0, p0, q0, hargs, rfl, rfl, h0, r0⟩ := trodAll_cons hA
  obtain ⟨rfl, rfl, rfl⟩ := trodAll_nil r0
  obtain rfl : args = #[v0] := by cases args; simp_all
  obtain ⟨rfl, rfl⟩ := trodVars_none hV
  obtain ⟨T0, aT0, cT0, rfl, hT0, lT0, lR0, lC0⟩ := open_tab (hval 0 23 v0 rfl rfl) h0
  have k0 := h0
  have lt0 : ∀ x ∈ p0, x.block < W.heap.size := by obtain ⟨m, hm⟩ := k0; exact DataW.trod_lt m _ _ _ hm
  clear hA0 hval0
  refine (lvld_any T0 aT0 cT0 W hT0).mono fun e W' ⟨he, bel⟩ => ?_
  subst he
  exact ⟨_, rfl, _, _, _, [], _, [], hW', trodAll_mk1 (shut_bool Tryd.underlying4 _), (trodAll_cons_mk (Below.trod laidOut (by kernel_rfl) (of_decide_eq_true (by kernel_rfl)) k0 bel lt0) trodAll_mk0), rfl, bel.frame _, fun h => by cases h⟩
theorem quandleValid_row : Rows.QuandleValidSaid :=
  OpenClaim.holds_of_wide 8 Tryd.f8 rfl rfl rfl rfl rfl rfl rfl ⟨rfl, rfl, rfl, rfl, rfl⟩ rfl rfl rfl rfl rfl quandleValid_named Tryd.func8 quandleValid_closed quandleValid_inst quandleValid_wrap
    (fun os started H enc _ => quandleValid_lifted os started H enc)
theorem quandleValid_holds : Rows.QuandleValidCardSaid :=
  Claim7.holds_tied_plain_at .later [] [.data, .data, .data] true (true, "80a1b384fda0cb5ff6f79141b5cb5edcab0e3e35b331f8e81d08cf96b960c75e") false
    quandleValid_row (fun _ h => by cases h) (by kernel_rfl) (fun _ h => by cases h) quandleValid_row_tie rfl ⟨rfl, rfl⟩ (by kernel_rfl) rfl
    (fun f fn hf hfn => by
      obtain rfl : f = 8 := Option.some.inj (quandleValid_named.symm.trans hf) |>.symm
      obtain rfl : fn = Tryd.f8 := (Option.some.inj (Tryd.func8.symm.trans hfn)).symm
      exact ⟨by kernel_rfl, fun j t ht => by
        rw [Tryd.params8] at ht
        have hm : t ∈ [23] := by
          have := Array.mem_of_getElem? ht
          simpa using this
        have hall : ([23].all fun u => !Tryd.prog.wantsStandIn u) = true := by kernel_rfl
        exact (show Tryd.prog.wantsStandIn t = false by simpa using List.all_eq_true.1 hall t hm)⟩)
    (by kernel_rfl)
#print axioms quandleValid_holds
end Go.Proofs.YtlgiponfcmeiiaaDoor
