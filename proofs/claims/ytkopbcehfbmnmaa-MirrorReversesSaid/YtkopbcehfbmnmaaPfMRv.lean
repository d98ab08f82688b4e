/- The law MirrorReverses: reversing all components, one after the other, is Reverse. No condition. -/
import Derived.Test.YtkopbcehfbmnmaaFrame0
import Derived.Test.YtkopbcehfbmnmaaMRvW
namespace Go.Proofs.Ytkopbcehfbmnmaa
open Go Go.RowKit Go.ChangeShapes Go.WideShapes Go.ChangeAt Go.Joins
theorem mirrorReverses_k0 : (Rows.mirrorReversesRow.wf (OpenSpec.ofChange Rows.mirrorReversesSpec)) = true := by kernel_rfl
theorem mirrorReverses_k3 : (Try.f19.params.all (Try.prog.readableRec ·)) = true := by kernel_rfl
theorem mirrorReverses_k4 : (namedTie Try.prog Rows.mirrorReversesRow.named Rows.mirrorReversesSpec.vars) = true := by kernel_rfl
theorem mirrorReverses_k5 : (Rows.mirrorReversesRow.stops == []) = true := by kernel_rfl
theorem mirrorReverses_k7 : (Rows.mirrorReversesRow.knobs == []) = true := by kernel_rfl
theorem mirrorReverses_k9 : (Rows.mirrorReversesRow.inPlace == Try.prog.inPlace 19) = true := by kernel_rfl
theorem mirrorReverses_k10 : (Rows.mirrorReversesRow.unfollowed == Try.prog.unfollowed 19) = true := by kernel_rfl
theorem mirrorReverses_k11 : (Rows.mirrorReversesRow.recurses == Try.prog.recurses 19) = true := by kernel_rfl
theorem mirrorReverses_k12 : (Rows.mirrorReversesRow.named == Try.prog.varsNamed 19) = true := by kernel_rfl
theorem mirrorReverses_k13 : (Rows.mirrorReversesRow.maps == (Try.f19.params.toList ++ Rows.mirrorReversesSpec.plain.varTypes Try.prog).any (Try.prog.mapsRec ·)) = true := by kernel_rfl
theorem mirrorReverses_k14 : (Rows.mirrorReversesRow.ifaces == (Try.f19.params.toList ++ Rows.mirrorReversesSpec.plain.varTypes Try.prog).any (Try.prog.ifacesRec ·)) = true := by kernel_rfl
theorem mirrorReverses_k15 : (Rows.mirrorReversesRow.mapsOut == Try.prog.mapsAmong Try.f19.resultTypes.toList) = true := by kernel_rfl
theorem mirrorReverses_k16 : (Rows.mirrorReversesRow.loops == (Try.f19.params.toList ++ Rows.mirrorReversesSpec.plain.varTypes Try.prog).any (Try.prog.loopsFrom ·)) = true := by kernel_rfl
theorem mirrorReverses_k17 : (Rows.mirrorReversesRow.wideKeys == (Try.f19.params.toList ++ Rows.mirrorReversesSpec.plain.varTypes Try.prog ++ Try.f19.resultTypes.toList).any (Try.prog.wideKeysFrom ·)) = true := by kernel_rfl
theorem mirrorReverses_k18 : (Rows.mirrorReversesSpec.vars.all (Try.prog.varReadable ·)) = true := by kernel_rfl
theorem mirrorReverses_k19 : (Try.f19.resultTypes.all (fun t => Try.prog.readableRec t && decide (t < Try.prog.types.size))) = true := by kernel_rfl
theorem mirrorReverses_k20 : (Rows.mirrorReversesRow.ifacesOut == Try.f19.resultTypes.toList.any (Try.prog.ifacesRec ·)) = true := by kernel_rfl
theorem mirrorReverses_k21 : (Rows.mirrorReversesRow.loopsOut == Try.f19.resultTypes.toList.any (Try.prog.loopsFrom ·)) = true := by kernel_rfl
theorem mirrorReverses_k22 : (Rows.mirrorReversesRow.plainKeys == Try.prog.plainKeys) = true := by rw [prog_keys]; rfl
theorem mirrorReverses_k23 : (Rows.mirrorReversesRow.shortTexts.isNone) = true := by kernel_rfl
theorem mirrorReverses_k26 : (Rows.mirrorReversesRow.lifted == Try.prog.liftsFinal) = true := by rw [prog_final]; rfl
theorem mirrorReverses_k27 : (Try.prog.make == some Rows.mirrorReversesRow.make) = true := by rw [prog_make]; rfl
theorem mirrorReverses_k28 : (Rows.mirrorReversesRow.kinds == (if Rows.mirrorReversesRow.domain.isEmpty then [] else Try.f19.params.toList.map fun t => match Try.prog.underlying t with | some (.int k) => some k | _ => none)) = true := by kernel_rfl
theorem mirrorReverses_k29 : (Rows.mirrorReversesRow.pinned == Rows.mirrorReversesRow.pinnedBy) = true := by kernel_rfl
theorem mirrorReverses_k30 : (Rows.mirrorReversesRow.veiled == (Try.f19.params.toList ++ Rows.mirrorReversesSpec.plain.varTypes Try.prog ++ Try.f19.resultTypes.toList).any (Try.prog.veiledRec ·)) = true := by kernel_rfl
theorem mirrorReverses_k31 : (Rows.mirrorReversesRow.veiledFits Try.prog Try.f19.params.toList (Try.f19.params.toList ++ Rows.mirrorReversesSpec.plain.varTypes Try.prog ++ Try.f19.resultTypes.toList)) = true := by kernel_rfl
set_option maxRecDepth 100000 in
theorem mirrorReverses_closed : joinedFacts Try.prog 19 Try.f19 Rows.mirrorReversesSpec Rows.mirrorReversesRow = true := (and2 (and2 (and2 (and2 (and2 (and2 (and2 (and2 (and2 (and2 (and2 (and2 (and2 (and2 (and2 (and2 (and2 (and2 (and2 (and2 (and2 (and2 (and2 (and2 (and2 (and2 (and2 (and2 (and2 (and2 (and2 mirrorReverses_k0 laidOut) prog_maps) mirrorReverses_k3) mirrorReverses_k4) mirrorReverses_k5) prog_stops) mirrorReverses_k7) prog_knobs) mirrorReverses_k9) mirrorReverses_k10) mirrorReverses_k11) mirrorReverses_k12) mirrorReverses_k13) mirrorReverses_k14) mirrorReverses_k15) mirrorReverses_k16) mirrorReverses_k17) mirrorReverses_k18) mirrorReverses_k19) mirrorReverses_k20) mirrorReverses_k21) mirrorReverses_k22) mirrorReverses_k23) prog_heard) prog_enter) mirrorReverses_k26) mirrorReverses_k27) mirrorReverses_k28) mirrorReverses_k29) mirrorReverses_k30) mirrorReverses_k31)
theorem mirrorReverses_named : Try.prog.funcNamed Rows.mirrorReversesRow.func = some 19 := by kernel_rfl
theorem mirrorReverses_inst : Try.f19.isInstance Try.prog Rows.mirrorReversesRow.origin Rows.mirrorReversesRow.targs := of_decide_eq_true (by kernel_rfl)
theorem mirrorReverses_wrap : Try.f19.isWrapper Try.prog Rows.mirrorReversesRow.wrapper Rows.mirrorReversesRow.mainSum := by unfold Func.isWrapper; first | (rw [if_pos (by decide +kernel)]; kernel_rfl) | (rw [if_neg (by decide +kernel)]; exact ⟨rfl, rfl⟩)
set_option maxRecDepth 100000 in
theorem mirrorReverses_lifted (os : Os) (started : os.Started) (H : Type) (enc : TypeId × Value → H) :
    ReturnsInHanded {} Try.checked os 19 .any (Rows.mirrorReversesSpec.pre6 enc Try.prog Try.f19 Rows.mirrorReversesRow.domain false) (Rows.mirrorReversesSpec.post enc Try.prog Try.f19 false true false false) := by
  refine returnsInHanded_of_change (C := Try.checked) own started (by kernel_rfl) Try.func19
    (ChangeSpec.witness6 (enc := enc) (C := Try.checked) false ⟨#[], #[.agg #[.slice none 0 0, .slice none 0 0, .int .i64 0]], []⟩ 8 (by kernel_rfl) (by kernel_rfl) (by kernel_rfl) (by kernel_rfl)) ?_
  intro W base args ds gs before hval0 hW hcnd _
  have hval : ∀ (j : Nat) t v, Try.f19.params[j]? = some t → args[j]? = some v → Value.okWide Try.prog W .any base t v := hval0
  have hW' := hW
  obtain ⟨p, q, hA0, hV, rfl, hfz, hnd⟩ := hW
  have hA : DataW.TrodAll enc Try.prog W 0 (fun _ => true) true Try.f19.params.toList args.toList ds p := hA0
  rw [Try.params19] at hA hval
  obtain ⟨v0, vs0, d0, ds0, p0, q0, hargs, rfl, rfl, h0, r0⟩ := trodAll_cons hA
  obtain ⟨rfl, rfl, rfl⟩ := trodAll_nil r0
  obtain rfl : args = #[v0] := by cases args; simp_all
  obtain ⟨rfl, rfl⟩ := trodVars_none hV
  obtain ⟨S0, M0, L0, aS0, aM0, cS0, cM0, rfl, hS0, hM0, lS0, lM0, wL0⟩ := open_diag (hval 0 24 v0 rfl rfl) h0
  have k0 := h0
  have lt0 : ∀ x ∈ p0, x.block < W.heap.size := by obtain ⟨m, hm⟩ := k0; exact DataW.trod_lt m _ _ _ hm
  clear hA0 hval0
  refine (mrv_any S0 M0 L0 aS0 aM0 cS0 cM0 W lS0 lM0 wL0 hS0 hM0).mono fun e W' ⟨he, bel⟩ => ?_
  subst he
  exact ⟨_, rfl, _, _, _, [], _, [], hW', trodAll_mk1 (shut_bool Try.underlying4 _), (trodAll_cons_mk (Below.trod laidOut (by kernel_rfl) (of_decide_eq_true (by kernel_rfl)) k0 bel lt0) trodAll_mk0), rfl, bel.frame _, fun h => by cases h⟩
theorem mirrorReverses_holds : Rows.MirrorReversesSaid :=
  OpenClaim.holds_of_wide 19 Try.f19 rfl rfl rfl rfl rfl rfl rfl ⟨rfl, rfl, rfl, rfl, rfl⟩ rfl rfl rfl rfl rfl mirrorReverses_named Try.func19 mirrorReverses_closed mirrorReverses_inst mirrorReverses_wrap
    (fun os started H enc _ => mirrorReverses_lifted os started H enc)
#print axioms mirrorReverses_holds
end Go.Proofs.Ytkopbcehfbmnmaa
