/- MirrorSwitches: for every diagram and every number the law returns true, and the arguments read afterwards as before. No condition. -/
import Derived.Test.YtkopbcehfbmnmaaFrame0
import Derived.Test.YtkopbcehfbmnmaaMSwW
namespace Go.Proofs.Ytkopbcehfbmnmaa
open Go Go.RowKit Go.ChangeShapes Go.WideShapes Go.ChangeAt Go.Joins
theorem mirrorSwitches_k0 : (Rows.mirrorSwitchesRow.wf (OpenSpec.ofChange Rows.mirrorSwitchesSpec)) = true := by kernel_rfl
theorem mirrorSwitches_k3 : (Try.f7.params.all (Try.prog.readableRec ·)) = true := by kernel_rfl
theorem mirrorSwitches_k4 : (namedTie Try.prog Rows.mirrorSwitchesRow.named Rows.mirrorSwitchesSpec.vars) = true := by kernel_rfl
theorem mirrorSwitches_k5 : (Rows.mirrorSwitchesRow.stops == []) = true := by kernel_rfl
theorem mirrorSwitches_k7 : (Rows.mirrorSwitchesRow.knobs == []) = true := by kernel_rfl
theorem mirrorSwitches_k9 : (Rows.mirrorSwitchesRow.inPlace == Try.prog.inPlace 7) = true := by kernel_rfl
theorem mirrorSwitches_k10 : (Rows.mirrorSwitchesRow.unfollowed == Try.prog.unfollowed 7) = true := by kernel_rfl
theorem mirrorSwitches_k11 : (Rows.mirrorSwitchesRow.recurses == Try.prog.recurses 7) = true := by kernel_rfl
theorem mirrorSwitches_k12 : (Rows.mirrorSwitchesRow.named == Try.prog.varsNamed 7) = true := by kernel_rfl
theorem mirrorSwitches_k13 : (Rows.mirrorSwitchesRow.maps == (Try.f7.params.toList ++ Rows.mirrorSwitchesSpec.plain.varTypes Try.prog).any (Try.prog.mapsRec ·)) = true := by kernel_rfl
theorem mirrorSwitches_k14 : (Rows.mirrorSwitchesRow.ifaces == (Try.f7.params.toList ++ Rows.mirrorSwitchesSpec.plain.varTypes Try.prog).any (Try.prog.ifacesRec ·)) = true := by kernel_rfl
theorem mirrorSwitches_k15 : (Rows.mirrorSwitchesRow.mapsOut == Try.prog.mapsAmong Try.f7.resultTypes.toList) = true := by kernel_rfl
theorem mirrorSwitches_k16 : (Rows.mirrorSwitchesRow.loops == (Try.f7.params.toList ++ Rows.mirrorSwitchesSpec.plain.varTypes Try.prog).any (Try.prog.loopsFrom ·)) = true := by kernel_rfl
theorem mirrorSwitches_k17 : (Rows.mirrorSwitchesRow.wideKeys == (Try.f7.params.toList ++ Rows.mirrorSwitchesSpec.plain.varTypes Try.prog ++ Try.f7.resultTypes.toList).any (Try.prog.wideKeysFrom ·)) = true := by kernel_rfl
theorem mirrorSwitches_k18 : (Rows.mirrorSwitchesSpec.vars.all (Try.prog.varReadable ·)) = true := by kernel_rfl
theorem mirrorSwitches_k19 : (Try.f7.resultTypes.all (fun t => Try.prog.readableRec t && decide (t < Try.prog.types.size))) = true := by kernel_rfl
theorem mirrorSwitches_k20 : (Rows.mirrorSwitchesRow.ifacesOut == Try.f7.resultTypes.toList.any (Try.prog.ifacesRec ·)) = true := by kernel_rfl
theorem mirrorSwitches_k21 : (Rows.mirrorSwitchesRow.loopsOut == Try.f7.resultTypes.toList.any (Try.prog.loopsFrom ·)) = true := by kernel_rfl
theorem mirrorSwitches_k22 : (Rows.mirrorSwitchesRow.plainKeys == Try.prog.plainKeys) = true := by rw [prog_keys]; rfl
theorem mirrorSwitches_k23 : (Rows.mirrorSwitchesRow.shortTexts.isNone) = true := by kernel_rfl
theorem mirrorSwitches_k26 : (Rows.mirrorSwitchesRow.lifted == Try.prog.liftsFinal) = true := by rw [prog_final]; rfl
theorem mirrorSwitches_k27 : (Try.prog.make == some Rows.mirrorSwitchesRow.make) = true := by rw [prog_make]; rfl
theorem mirrorSwitches_k28 : (Rows.mirrorSwitchesRow.kinds == (if Rows.mirrorSwitchesRow.domain.isEmpty then [] else Try.f7.params.toList.map fun t => match Try.prog.underlying t with | some (.int k) => some k | _ => none)) = true := by kernel_rfl
theorem mirrorSwitches_k29 : (Rows.mirrorSwitchesRow.pinned == Rows.mirrorSwitchesRow.pinnedBy) = true := by kernel_rfl
theorem mirrorSwitches_k30 : (Rows.mirrorSwitchesRow.veiled == (Try.f7.params.toList ++ Rows.mirrorSwitchesSpec.plain.varTypes Try.prog ++ Try.f7.resultTypes.toList).any (Try.prog.veiledRec ·)) = true := by kernel_rfl
theorem mirrorSwitches_k31 : (Rows.mirrorSwitchesRow.veiledFits Try.prog Try.f7.params.toList (Try.f7.params.toList ++ Rows.mirrorSwitchesSpec.plain.varTypes Try.prog ++ Try.f7.resultTypes.toList)) = true := by kernel_rfl
set_option maxRecDepth 100000 in
theorem mirrorSwitches_closed : joinedFacts Try.prog 7 Try.f7 Rows.mirrorSwitchesSpec Rows.mirrorSwitchesRow = true := (and2 (and2 (and2 (and2 (and2 (and2 (and2 (and2 (and2 (and2 (and2 (and2 (and2 (and2 (and2 (and2 (and2 (and2 (and2 (and2 (and2 (and2 (and2 (and2 (and2 (and2 (and2 (and2 (and2 (and2 (and2 mirrorSwitches_k0 laidOut) prog_maps) mirrorSwitches_k3) mirrorSwitches_k4) mirrorSwitches_k5) prog_stops) mirrorSwitches_k7) prog_knobs) mirrorSwitches_k9) mirrorSwitches_k10) mirrorSwitches_k11) mirrorSwitches_k12) mirrorSwitches_k13) mirrorSwitches_k14) mirrorSwitches_k15) mirrorSwitches_k16) mirrorSwitches_k17) mirrorSwitches_k18) mirrorSwitches_k19) mirrorSwitches_k20) mirrorSwitches_k21) mirrorSwitches_k22) mirrorSwitches_k23) prog_heard) prog_enter) mirrorSwitches_k26) mirrorSwitches_k27) mirrorSwitches_k28) mirrorSwitches_k29) mirrorSwitches_k30) mirrorSwitches_k31)
theorem mirrorSwitches_named : Try.prog.funcNamed Rows.mirrorSwitchesRow.func = some 7 := by kernel_rfl
theorem mirrorSwitches_inst : Try.f7.isInstance Try.prog Rows.mirrorSwitchesRow.origin Rows.mirrorSwitchesRow.targs := of_decide_eq_true (by kernel_rfl)
theorem mirrorSwitches_wrap : Try.f7.isWrapper Try.prog Rows.mirrorSwitchesRow.wrapper Rows.mirrorSwitchesRow.mainSum := by unfold Func.isWrapper; first | (rw [if_pos (by decide +kernel)]; kernel_rfl) | (rw [if_neg (by decide +kernel)]; exact ⟨rfl, rfl⟩)
set_option maxRecDepth 100000 in
theorem mirrorSwitches_lifted (os : Os) (started : os.Started) (H : Type) (enc : TypeId × Value → H) :
    ReturnsInHanded {} Try.checked os 7 .any (Rows.mirrorSwitchesSpec.pre6 enc Try.prog Try.f7 Rows.mirrorSwitchesRow.domain false) (Rows.mirrorSwitchesSpec.post enc Try.prog Try.f7 false true false false) := by
  refine returnsInHanded_of_change (C := Try.checked) own started (by kernel_rfl) Try.func7
    (ChangeSpec.witness6 (enc := enc) (C := Try.checked) false ⟨#[], #[.agg #[.slice none 0 0, .slice none 0 0, .int .i64 0], .int .u8 0], []⟩ 8 (by kernel_rfl) (by kernel_rfl) (by kernel_rfl) (by kernel_rfl)) ?_
  intro W base args ds gs before hval0 hW hcnd _
  have hval : ∀ (j : Nat) t v, Try.f7.params[j]? = some t → args[j]? = some v → Value.okWide Try.prog W .any base t v := hval0
  have hW' := hW
  obtain ⟨p, q, hA0, hV, rfl, hfz, hnd⟩ := hW
  have hA : DataW.TrodAll enc Try.prog W 0 (fun _ => true) true Try.f7.params.toList args.toList ds p := hA0
  rw [Try.params7] at hA hval
  obtain ⟨v0, vs0, d0, ds0, p0, q0, hargs, rfl, rfl, h0, r0⟩ := trodAll_cons hA
  obtain ⟨v1, vs1, d1, ds1, p1, q1, rfl, rfl, rfl, h1, r1⟩ := trodAll_cons r0
  obtain ⟨rfl, rfl, rfl⟩ := trodAll_nil r1
  obtain rfl : args = #[v0, v1] := by cases args; simp_all
  obtain ⟨rfl, rfl⟩ := trodVars_none hV
  obtain ⟨S0, M0, L0, aS0, aM0, cS0, cM0, rfl, hS0, hM0, lS0, lM0, wL0⟩ := open_diag (hval 0 24 v0 rfl rfl) h0
  have k0 := h0
  have lt0 : ∀ x ∈ p0, x.block < W.heap.size := by obtain ⟨m, hm⟩ := k0; exact DataW.trod_lt m _ _ _ hm
  obtain ⟨i1, rfl, rfl, rfl, w1⟩ := open_int Try.underlying5 (hval 1 5 v1 rfl rfl) h1
  clear hA0 hval0
  refine (msw_any S0 M0 L0 aS0 aM0 cS0 cM0 i1 W lS0 lM0 wL0 hS0 hM0 w1).mono fun e W' ⟨he, bel⟩ => ?_
  subst he
  exact ⟨_, rfl, _, _, _, [], _, [], hW', trodAll_mk1 (shut_bool Try.underlying4 _), (trodAll_cons_mk (Below.trod laidOut (by kernel_rfl) (of_decide_eq_true (by kernel_rfl)) k0 bel lt0) (trodAll_cons_mk (shut_int Try.underlying5 w1) trodAll_mk0)), rfl, bel.frame _, fun h => by cases h⟩
theorem mirrorSwitches_holds : Rows.MirrorSwitchesSaid :=
  OpenClaim.holds_of_wide 7 Try.f7 rfl rfl rfl rfl rfl rfl rfl ⟨rfl, rfl, rfl, rfl, rfl⟩ rfl rfl rfl rfl rfl mirrorSwitches_named Try.func7 mirrorSwitches_closed mirrorSwitches_inst mirrorSwitches_wrap
    (fun os started H enc _ => mirrorSwitches_lifted os started H enc)
#print axioms mirrorSwitches_holds
end Go.Proofs.Ytkopbcehfbmnmaa
