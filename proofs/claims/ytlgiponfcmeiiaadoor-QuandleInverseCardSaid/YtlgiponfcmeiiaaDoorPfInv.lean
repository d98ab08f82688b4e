/- The law QuandleInverse: Inverse undoes the product, from both sides, and refuses elements that do not exist. -/
import Derived.Test.YtlgiponfcmeiiaaDoorFrame0
import Derived.Test.YtlgiponfcmeiiaaDoorCards
import Derived.Test.YtlgiponfcmeiiaaDoorTie
import Derived.LaidMore
import Derived.SevenTiedAt
import Derived.Stop.Joined
import Derived.Test.YtlgiponfcmeiiaaDoorLInv
namespace Go.Proofs.YtlgiponfcmeiiaaDoor
open Go Go.RowKit Go.ChangeShapes Go.WideShapes Go.ChangeAt Go.Joins
theorem quandleInverse_k0 : (Rows.quandleInverseRow.wf (OpenSpec.ofChange Rows.quandleInverseSpec)) = true := by kernel_rfl
theorem quandleInverse_k3 : (Tryd.f4.params.all (Tryd.prog.readableRec ·)) = true := by kernel_rfl
theorem quandleInverse_k4 : (namedTie Tryd.prog Rows.quandleInverseRow.named Rows.quandleInverseSpec.vars) = true := by kernel_rfl
theorem quandleInverse_k5 : (Rows.quandleInverseRow.stops == []) = true := by kernel_rfl
theorem quandleInverse_k7 : (Rows.quandleInverseRow.knobs == []) = true := by kernel_rfl
theorem quandleInverse_k9 : (Rows.quandleInverseRow.inPlace == Tryd.prog.inPlace 4) = true := by kernel_rfl
theorem quandleInverse_k10 : (Rows.quandleInverseRow.unfollowed == Tryd.prog.unfollowed 4) = true := by kernel_rfl
theorem quandleInverse_k11 : (Rows.quandleInverseRow.recurses == Tryd.prog.recurses 4) = true := by kernel_rfl
theorem quandleInverse_k12 : (Rows.quandleInverseRow.named == Tryd.prog.varsNamed 4) = true := by kernel_rfl
theorem quandleInverse_k13 : (Rows.quandleInverseRow.maps == (Tryd.f4.params.toList ++ Rows.quandleInverseSpec.plain.varTypes Tryd.prog).any (Tryd.prog.mapsRec ·)) = true := by kernel_rfl
theorem quandleInverse_k14 : (Rows.quandleInverseRow.ifaces == (Tryd.f4.params.toList ++ Rows.quandleInverseSpec.plain.varTypes Tryd.prog).any (Tryd.prog.ifacesRec ·)) = true := by kernel_rfl
theorem quandleInverse_k15 : (Rows.quandleInverseRow.mapsOut == Tryd.prog.mapsAmong Tryd.f4.resultTypes.toList) = true := by kernel_rfl
theorem quandleInverse_k16 : (Rows.quandleInverseRow.loops == (Tryd.f4.params.toList ++ Rows.quandleInverseSpec.plain.varTypes Tryd.prog).any (Tryd.prog.loopsFrom ·)) = true := by kernel_rfl
theorem quandleInverse_k17 : (Rows.quandleInverseRow.wideKeys == (Tryd.f4.params.toList ++ Rows.quandleInverseSpec.plain.varTypes Tryd.prog ++ Tryd.f4.resultTypes.toList).any (Tryd.prog.wideKeysFrom ·)) = true := by kernel_rfl
theorem quandleInverse_k18 : (Rows.quandleInverseSpec.vars.all (Tryd.prog.varReadable ·)) = true := by kernel_rfl
theorem quandleInverse_k19 : (Tryd.f4.resultTypes.all (fun t => Tryd.prog.readableRec t && decide (t < Tryd.prog.types.size))) = true := by kernel_rfl
theorem quandleInverse_k20 : (Rows.quandleInverseRow.ifacesOut == Tryd.f4.resultTypes.toList.any (Tryd.prog.ifacesRec ·)) = true := by kernel_rfl
theorem quandleInverse_k21 : (Rows.quandleInverseRow.loopsOut == Tryd.f4.resultTypes.toList.any (Tryd.prog.loopsFrom ·)) = true := by kernel_rfl
theorem quandleInverse_k22 : (Rows.quandleInverseRow.plainKeys == Tryd.prog.plainKeys) = true := by rw [prog_keys]; rfl
theorem quandleInverse_k23 : (Rows.quandleInverseRow.shortTexts.isNone) = true := by kernel_rfl
theorem quandleInverse_k26 : (Rows.quandleInverseRow.lifted == Tryd.prog.liftsFinal) = true := by rw [prog_final]; rfl
theorem quandleInverse_k27 : (Tryd.prog.make == some Rows.quandleInverseRow.make) = true := by rw [prog_make]; rfl
theorem quandleInverse_k28 : (Rows.quandleInverseRow.kinds == (if Rows.quandleInverseRow.domain.isEmpty then [] else Tryd.f4.params.toList.map fun t => match Tryd.prog.underlying t with | some (.int k) => some k | _ => none)) = true := by kernel_rfl
theorem quandleInverse_k29 : (Rows.quandleInverseRow.pinned == Rows.quandleInverseRow.pinnedBy) = true := by kernel_rfl
theorem quandleInverse_k30 : (Rows.quandleInverseRow.veiled == (Tryd.f4.params.toList ++ Rows.quandleInverseSpec.plain.varTypes Tryd.prog ++ Tryd.f4.resultTypes.toList).any (Tryd.prog.veiledRec ·)) = true := by kernel_rfl
theorem quandleInverse_k31 : (Rows.quandleInverseRow.veiledFits Tryd.prog Tryd.f4.params.toList (Tryd.f4.params.toList ++ Rows.quandleInverseSpec.plain.varTypes Tryd.prog ++ Tryd.f4.resultTypes.toList)) = true := by kernel_rfl
set_option maxRecDepth 100000 in
theorem quandleInverse_closed : joinedFacts Tryd.prog 4 Tryd.f4 Rows.quandleInverseSpec Rows.quandleInverseRow = true := (and2 (and2 (and2 (and2 (and2 (and2 (and2 (and2 (and2 (and2 (and2 (and2 (and2 (and2 (and2 (and2 (and2 (and2 (and2 (and2 (and2 (and2 (and2 (and2 (and2 (and2 (and2 (and2 (and2 (and2 (and2 quandleInverse_k0 laidOut) prog_maps) quandleInverse_k3) quandleInverse_k4) quandleInverse_k5) prog_stops) quandleInverse_k7) prog_knobs) quandleInverse_k9) quandleInverse_k10) quandleInverse_k11) quandleInverse_k12) quandleInverse_k13) quandleInverse_k14) quandleInverse_k15) quandleInverse_k16) quandleInverse_k17) quandleInverse_k18) quandleInverse_k19) quandleInverse_k20) quandleInverse_k21) quandleInverse_k22) quandleInverse_k23) prog_heard) prog_enter) quandleInverse_k26) quandleInverse_k27) quandleInverse_k28) quandleInverse_k29) quandleInverse_k30) quandleInverse_k31)
theorem quandleInverse_named : Tryd.prog.funcNamed Rows.quandleInverseRow.func = some 4 := by kernel_rfl
theorem quandleInverse_inst : Tryd.f4.isInstance Tryd.prog Rows.quandleInverseRow.origin Rows.quandleInverseRow.targs := of_decide_eq_true (by kernel_rfl)
theorem quandleInverse_wrap : Tryd.f4.isWrapper Tryd.prog Rows.quandleInverseRow.wrapper Rows.quandleInverseRow.mainSum := by unfold Func.isWrapper; first | (rw [if_pos (by decide +kernel)]; kernel_rfl) | (rw [if_neg (by decide +kernel)]; exact ⟨rfl, rfl⟩)
set_option maxRecDepth 100000 in
theorem quandleInverse_door (os : Os) (args : Array Value) : laidMetH Tryd.prog Rows.quandleInverseRow.laid ((World.doorLaid Tryd.prog 400 os).forCall (fun _ _ => 0) ⟨#[], args, []⟩).memory :=
  laidMetH_of_parts3 (fuel := 8) (laidMet_of_run' 8 (by kernel_rfl) (by kernel_rfl)) (by kernel_rfl) (by kernel_rfl)
set_option maxRecDepth 100000 in
theorem quandleInverse_lifted (os : Os) (started : os.Started) (H : Type) (enc : TypeId × Value → H) :
    ReturnsInHanded {} Tryd.checked os 4 .any (fun w args => (Rows.quandleInverseSpec.pre enc Tryd.prog Tryd.f4 [] false w args ∧ laidMetH Tryd.prog Rows.quandleInverseRow.laid w) ∧ sizedMet enc Tryd.prog Tryd.f4 (OpenSpec.ofChange Rows.quandleInverseSpec) false w args) (Rows.quandleInverseSpec.post enc Tryd.prog Tryd.f4 false true false false) := by
  refine returnsInHanded_of_change_and (C := Tryd.checked) (X := fun w _ => laidMetH Tryd.prog Rows.quandleInverseRow.laid w) (fun _ _ _ hh h => h.of_heap hh) own started (by kernel_rfl) Tryd.func4
    (ChangeSpec.witness_shaped (enc := enc) (C := Tryd.checked) (os := os) (X := fun w _ => laidMetH Tryd.prog Rows.quandleInverseRow.laid w) false (World.doorLaid Tryd.prog 400 os) #[.slice none 0 0, .int .i64 0, .int .i64 0] 8 rfl (World.shaped_of_RefB (by kernel_rfl) (by kernel_rfl)) (by kernel_rfl) (by kernel_rfl) (by kernel_rfl) (quandleInverse_door os _)) ?_
  intro W base args ds gs before hval0 hW hcnd _ hL _
  have hval : ∀ (j : Nat) t v, Tryd.f4.params[j]? = some t → args[j]? = some v → Value.okWide Tryd.prog W .any base t v := hval0
  have hW' := hW
  obtain ⟨p, q, hA0, hV, rfl, hfz, hnd⟩ := hW
  have hA : DataW.TrodAll enc Tryd.prog W 0 (fun _ => true) true Tryd.f4.params.toList args.toList ds p := hA0
  rw [Tryd.params4] at hA hval
  obtain ⟨v0, vs0, d0, ds0, p0, q0, hargs, rfl, rfl, h0, r0⟩ := trodAll_cons hA
  obtain ⟨v1, vs1, d1, ds1, p1, q1, rfl, rfl, rfl, h1, r1⟩ := trodAll_cons r0
  obtain ⟨v2, vs2, d2, ds2, p2, q2, rfl, rfl, rfl, h2, r2⟩ := trodAll_cons r1
  obtain ⟨rfl, rfl, rfl⟩ := trodAll_nil r2
  obtain rfl : args = #[v0, v1, v2] := by cases args; simp_all
  obtain ⟨rfl, rfl⟩ := trodVars_none hV
  obtain ⟨T0, aT0, cT0, rfl, hT0, lT0, lR0, lC0⟩ := open_tab (hval 0 23 v0 rfl rfl) h0
  have k0 := h0
  have lt0 : ∀ x ∈ p0, x.block < W.heap.size := by obtain ⟨m, hm⟩ := k0; exact DataW.trod_lt m _ _ _ hm
  obtain ⟨i1, rfl, rfl, rfl, w1⟩ := open_int Tryd.underlying3 (hval 1 3 v1 rfl rfl) h1
  obtain ⟨i2, rfl, rfl, rfl, w2⟩ := open_int Tryd.underlying3 (hval 2 3 v2 rfl rfl) h2
  clear hA0 hval0
  refine (linv_any T0 aT0 cT0 i1 i2 W hT0 w1 w2).mono fun e W' ⟨he, bel⟩ => ?_
  subst he
  exact ⟨_, rfl, _, _, _, [], _, [], hW', trodAll_mk1 (shut_bool Tryd.underlying4 _), (trodAll_cons_mk (Below.trod laidOut (by kernel_rfl) (of_decide_eq_true (by kernel_rfl)) k0 bel lt0) (trodAll_cons_mk (shut_int Tryd.underlying3 w1) (trodAll_cons_mk (shut_int Tryd.underlying3 w2) trodAll_mk0))), rfl, bel.frame _, fun h => by cases h⟩
theorem quandleInverse_row : Rows.QuandleInverseSaid :=
  OpenClaim.holds_of_wide 4 Tryd.f4 rfl rfl rfl rfl rfl rfl rfl ⟨rfl, rfl, rfl, rfl, rfl⟩ rfl rfl rfl rfl rfl quandleInverse_named Tryd.func4 quandleInverse_closed quandleInverse_inst quandleInverse_wrap
    (fun os started H enc _ => quandleInverse_lifted os started H enc)
theorem quandleInverse_holds : Rows.QuandleInverseCardSaid :=
  Claim7.holds_tied_plain_at .later [] [.data, .data, .data] true (true, "80a1b384fda0cb5ff6f79141b5cb5edcab0e3e35b331f8e81d08cf96b960c75e") false
    quandleInverse_row (fun _ h => by cases h) (by kernel_rfl) (fun _ h => by cases h) quandleInverse_row_tie rfl ⟨rfl, rfl⟩ (by kernel_rfl) rfl
    (fun f fn hf hfn => by
      obtain rfl : f = 4 := Option.some.inj (quandleInverse_named.symm.trans hf) |>.symm
      obtain rfl : fn = Tryd.f4 := (Option.some.inj (Tryd.func4.symm.trans hfn)).symm
      exact ⟨by kernel_rfl, fun j t ht => by
        rw [Tryd.params4] at ht
        have hm : t ∈ [23, 3] := by
          have := Array.mem_of_getElem? ht
          simpa using this
        have hall : ([23, 3].all fun u => !Tryd.prog.wantsStandIn u) = true := by kernel_rfl
        exact (show Tryd.prog.wantsStandIn t = false by simpa using List.all_eq_true.1 hall t hm)⟩)
    (by kernel_rfl)
#print axioms quandleInverse_holds
end Go.Proofs.YtlgiponfcmeiiaaDoor
