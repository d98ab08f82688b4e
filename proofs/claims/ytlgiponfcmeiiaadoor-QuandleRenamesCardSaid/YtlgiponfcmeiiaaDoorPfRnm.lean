/- The law QuandleRenames. -/
import Derived.Test.YtlgiponfcmeiiaaDoorFrame0
import Derived.Test.YtlgiponfcmeiiaaDoorCards
import Derived.Test.YtlgiponfcmeiiaaDoorTie
import Derived.LaidMore
import Derived.SevenTiedAt
import Derived.Stop.Joined
import Derived.Test.YtlgiponfcmeiiaaDoorLRnY
namespace Go.Proofs.YtlgiponfcmeiiaaDoor
open Go Go.RowKit Go.ChangeShapes Go.WideShapes Go.ChangeAt Go.Joins
theorem quandleRenames_k0 : (Rows.quandleRenamesRow.wf (OpenSpec.ofChange Rows.quandleRenamesSpec)) = true := by kernel_rfl
theorem quandleRenames_k3 : (Tryd.f6.params.all (Tryd.prog.readableRec ·)) = true := by kernel_rfl
theorem quandleRenames_k4 : (namedTie Tryd.prog Rows.quandleRenamesRow.named Rows.quandleRenamesSpec.vars) = true := by kernel_rfl
theorem quandleRenames_k5 : (Rows.quandleRenamesRow.stops == []) = true := by kernel_rfl
theorem quandleRenames_k7 : (Rows.quandleRenamesRow.knobs == []) = true := by kernel_rfl
theorem quandleRenames_k9 : (Rows.quandleRenamesRow.inPlace == Tryd.prog.inPlace 6) = true := by kernel_rfl
theorem quandleRenames_k10 : (Rows.quandleRenamesRow.unfollowed == Tryd.prog.unfollowed 6) = true := by kernel_rfl
theorem quandleRenames_k11 : (Rows.quandleRenamesRow.recurses == Tryd.prog.recurses 6) = true := by kernel_rfl
theorem quandleRenames_k12 : (Rows.quandleRenamesRow.named == Tryd.prog.varsNamed 6) = true := by kernel_rfl
theorem quandleRenames_k13 : (Rows.quandleRenamesRow.maps == (Tryd.f6.params.toList ++ Rows.quandleRenamesSpec.plain.varTypes Tryd.prog).any (Tryd.prog.mapsRec ·)) = true := by kernel_rfl
theorem quandleRenames_k14 : (Rows.quandleRenamesRow.ifaces == (Tryd.f6.params.toList ++ Rows.quandleRenamesSpec.plain.varTypes Tryd.prog).any (Tryd.prog.ifacesRec ·)) = true := by kernel_rfl
theorem quandleRenames_k15 : (Rows.quandleRenamesRow.mapsOut == Tryd.prog.mapsAmong Tryd.f6.resultTypes.toList) = true := by kernel_rfl
theorem quandleRenames_k16 : (Rows.quandleRenamesRow.loops == (Tryd.f6.params.toList ++ Rows.quandleRenamesSpec.plain.varTypes Tryd.prog).any (Tryd.prog.loopsFrom ·)) = true := by kernel_rfl
theorem quandleRenames_k17 : (Rows.quandleRenamesRow.wideKeys == (Tryd.f6.params.toList ++ Rows.quandleRenamesSpec.plain.varTypes Tryd.prog ++ Tryd.f6.resultTypes.toList).any (Tryd.prog.wideKeysFrom ·)) = true := by kernel_rfl
theorem quandleRenames_k18 : (Rows.quandleRenamesSpec.vars.all (Tryd.prog.varReadable ·)) = true := by kernel_rfl
theorem quandleRenames_k19 : (Tryd.f6.resultTypes.all (fun t => Tryd.prog.readableRec t && decide (t < Tryd.prog.types.size))) = true := by kernel_rfl
theorem quandleRenames_k20 : (Rows.quandleRenamesRow.ifacesOut == Tryd.f6.resultTypes.toList.any (Tryd.prog.ifacesRec ·)) = true := by kernel_rfl
theorem quandleRenames_k21 : (Rows.quandleRenamesRow.loopsOut == Tryd.f6.resultTypes.toList.any (Tryd.prog.loopsFrom ·)) = true := by kernel_rfl
theorem quandleRenames_k22 : (Rows.quandleRenamesRow.plainKeys == Tryd.prog.plainKeys) = true := by rw [prog_keys]; rfl
theorem quandleRenames_k23 : (Rows.quandleRenamesRow.shortTexts.isNone) = true := by kernel_rfl
theorem quandleRenames_k26 : (Rows.quandleRenamesRow.lifted == Tryd.prog.liftsFinal) = true := by rw [prog_final]; rfl
theorem quandleRenames_k27 : (Tryd.prog.make == some Rows.quandleRenamesRow.make) = true := by rw [prog_make]; rfl
theorem quandleRenames_k28 : (Rows.quandleRenamesRow.kinds == (if Rows.quandleRenamesRow.domain.isEmpty then [] else Tryd.f6.params.toList.map fun t => match Tryd.prog.underlying t with | some (.int k) => some k | _ => none)) = true := by kernel_rfl
theorem quandleRenames_k29 : (Rows.quandleRenamesRow.pinned == Rows.quandleRenamesRow.pinnedBy) = true := by kernel_rfl
theorem quandleRenames_k30 : (Rows.quandleRenamesRow.veiled == (Tryd.f6.params.toList ++ Rows.quandleRenamesSpec.plain.varTypes Tryd.prog ++ Tryd.f6.resultTypes.toList).any (Tryd.prog.veiledRec ·)) = true := by kernel_rfl
theorem quandleRenames_k31 : (Rows.quandleRenamesRow.veiledFits Tryd.prog Tryd.f6.params.toList (Tryd.f6.params.toList ++ Rows.quandleRenamesSpec.plain.varTypes Tryd.prog ++ Tryd.f6.resultTypes.toList)) = true := by kernel_rfl
set_option maxRecDepth 100000 in
theorem quandleRenames_closed : joinedFacts Tryd.prog 6 Tryd.f6 Rows.quandleRenamesSpec Rows.quandleRenamesRow = true := (and2 (and2 (and2 (and2 (and2 (and2 (and2 (and2 (and2 (and2 (and2 (and2 (and2 (and2 (and2 (and2 (and2 (and2 (and2 (and2 (and2 (and2 (and2 (and2 (and2 (and2 (and2 (and2 (and2 (and2 (and2 quandleRenames_k0 laidOut) prog_maps) quandleRenames_k3) quandleRenames_k4) quandleRenames_k5) prog_stops) quandleRenames_k7) prog_knobs) quandleRenames_k9) quandleRenames_k10) quandleRenames_k11) quandleRenames_k12) quandleRenames_k13) quandleRenames_k14) quandleRenames_k15) quandleRenames_k16) quandleRenames_k17) quandleRenames_k18) quandleRenames_k19) quandleRenames_k20) quandleRenames_k21) quandleRenames_k22) quandleRenames_k23) prog_heard) prog_enter) quandleRenames_k26) quandleRenames_k27) quandleRenames_k28) quandleRenames_k29) quandleRenames_k30) quandleRenames_k31)
theorem quandleRenames_named : Tryd.prog.funcNamed Rows.quandleRenamesRow.func = some 6 := by kernel_rfl
theorem quandleRenames_inst : Tryd.f6.isInstance Tryd.prog Rows.quandleRenamesRow.origin Rows.quandleRenamesRow.targs := of_decide_eq_true (by kernel_rfl)
theorem quandleRenames_wrap : Tryd.f6.isWrapper Tryd.prog Rows.quandleRenamesRow.wrapper Rows.quandleRenamesRow.mainSum := by unfold Func.isWrapper; first | (rw [if_pos (by decide +kernel)]; kernel_rfl) | (rw [if_neg (by decide +kernel)]; exact ⟨rfl, rfl⟩)
set_option maxRecDepth 100000 in
theorem quandleRenames_door (os : Os) (args : Array Value) : laidMetH Tryd.prog Rows.quandleRenamesRow.laid ((World.doorLaid Tryd.prog 400 os).forCall (fun _ _ => 0) ⟨#[], args, []⟩).memory :=
  laidMetH_of_parts3 (fuel := 8) (laidMet_of_run' 8 (by kernel_rfl) (by kernel_rfl)) (by kernel_rfl) (by kernel_rfl)
set_option maxRecDepth 100000 in
theorem quandleRenames_lifted (os : Os) (started : os.Started) (H : Type) (enc : TypeId × Value → H) :
    ReturnsInHanded {} Tryd.checked os 6 .any (fun w args => (Rows.quandleRenamesSpec.pre enc Tryd.prog Tryd.f6 [] false w args ∧ laidMetH Tryd.prog Rows.quandleRenamesRow.laid w) ∧ sizedMet enc Tryd.prog Tryd.f6 (OpenSpec.ofChange Rows.quandleRenamesSpec) false w args) (Rows.quandleRenamesSpec.post enc Tryd.prog Tryd.f6 false true false false) := by
  refine returnsInHanded_of_change_and (C := Tryd.checked) (X := fun w _ => laidMetH Tryd.prog Rows.quandleRenamesRow.laid w) (fun _ _ _ hh h => h.of_heap hh) own started (by kernel_rfl) Tryd.func6
    (ChangeSpec.witness_shaped (enc := enc) (C := Tryd.checked) (os := os) (X := fun w _ => laidMetH Tryd.prog Rows.quandleRenamesRow.laid w) false (World.doorLaid Tryd.prog 400 os) #[.slice none 0 0, .int .u8 0, .int .u8 0] 8 rfl (World.shaped_of_RefB (by kernel_rfl) (by kernel_rfl)) (by kernel_rfl) (by kernel_rfl) (by kernel_rfl) (quandleRenames_door os _)) ?_
  intro W base args ds gs before hval0 hW hcnd _ hL _
  have hval : ∀ (j : Nat) t v, Tryd.f6.params[j]? = some t → args[j]? = some v → Value.okWide Tryd.prog W .any base t v := hval0
  have hW' := hW
  obtain ⟨p, q, hA0, hV, rfl, hfz, hnd⟩ := hW
  have hA : DataW.TrodAll enc Tryd.prog W 0 (fun _ => true) true Tryd.f6.params.toList args.toList ds p := hA0
  rw [Tryd.params6] at hA hval
  obtain ⟨v0, vs0, d0, ds0, p0, q0, hargs, rfl, rfl, h0, r0⟩ := trodAll_cons hA
  obtain ⟨v1, vs1, d1, ds1, p1, q1, rfl, rfl, rfl, h1, r1⟩ := trodAll_cons r0
  obtain ⟨v2, vs2, d2, ds2, p2, q2, rfl, rfl, rfl, h2, r2⟩ := trodAll_cons r1
  obtain ⟨rfl, rfl, rfl⟩ := trodAll_nil r2
  obtain rfl : args = #[v0, v1, v2] := by cases args; simp_all
  obtain ⟨rfl, rfl⟩ := trodVars_none hV
  obtain ⟨T0, aT0, cT0, rfl, hT0, lT0, lR0, lC0⟩ := open_tab (hval 0 23 v0 rfl rfl) h0
  have k0 := h0
  have lt0 : ∀ x ∈ p0, x.block < W.heap.size := by obtain ⟨m, hm⟩ := k0; exact DataW.trod_lt m _ _ _ hm
  obtain ⟨i1, rfl, rfl, rfl, w1⟩ := open_int Tryd.underlying5 (hval 1 5 v1 rfl rfl) h1
  obtain ⟨i2, rfl, rfl, rfl, w2⟩ := open_int Tryd.underlying5 (hval 2 5 v2 rfl rfl) h2
  clear hA0 hval0
  refine (lren_any T0 aT0 cT0 i1 i2 W hT0 w1 w2).mono fun e W' ⟨he, bel⟩ => ?_
  subst he
  exact ⟨_, rfl, _, _, _, [], _, [], hW', trodAll_mk1 (shut_bool Tryd.underlying4 _), (trodAll_cons_mk (Below.trod laidOut (by kernel_rfl) (of_decide_eq_true (by kernel_rfl)) k0 bel lt0) (trodAll_cons_mk (shut_int Tryd.underlying5 w1) (trodAll_cons_mk (shut_int Tryd.underlying5 w2) trodAll_mk0))), rfl, bel.frame _, fun h => by cases h⟩
theorem quandleRenames_row : Rows.QuandleRenamesSaid :=
  OpenClaim.holds_of_wide 6 Tryd.f6 rfl rfl rfl rfl rfl rfl rfl ⟨rfl, rfl, rfl, rfl, rfl⟩ rfl rfl rfl rfl rfl quandleRenames_named Tryd.func6 quandleRenames_closed quandleRenames_inst quandleRenames_wrap
    (fun os started H enc _ => quandleRenames_lifted os started H enc)
theorem quandleRenames_holds : Rows.QuandleRenamesCardSaid :=
  Claim7.holds_tied_plain_at .later [] [.data, .data, .data] true (true, "80a1b384fda0cb5ff6f79141b5cb5edcab0e3e35b331f8e81d08cf96b960c75e") false
    quandleRenames_row (fun _ h => by cases h) (by kernel_rfl) (fun _ h => by cases h) quandleRenames_row_tie rfl ⟨rfl, rfl⟩ (by kernel_rfl) rfl
    (fun f fn hf hfn => by
      obtain rfl : f = 6 := Option.some.inj (quandleRenames_named.symm.trans hf) |>.symm
      obtain rfl : fn = Tryd.f6 := (Option.some.inj (Tryd.func6.symm.trans hfn)).symm
      exact ⟨by kernel_rfl, fun j t ht => by
        rw [Tryd.params6] at ht
        have hm : t ∈ [23, 5] := by
          have := Array.mem_of_getElem? ht
          simpa using this
        have hall : ([23, 5].all fun u => !Tryd.prog.wantsStandIn u) = true := by kernel_rfl
        exact (show Tryd.prog.wantsStandIn t = false by simpa using List.all_eq_true.1 hall t hm)⟩)
    (by kernel_rfl)
#print axioms quandleRenames_holds
end Go.Proofs.YtlgiponfcmeiiaaDoor
