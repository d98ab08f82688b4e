/- The law MirrorWhole: mirror image, reflection and reversal of any diagram are those of the reference; diagrams that are not valid are refused. No condition. -/
import Derived.Test.YtkopbcehfbmnmaaFrame0
import Derived.Test.YtkopbcehfbmnmaaMWhW
namespace Go.Proofs.Ytkopbcehfbmnmaa
open Go Go.RowKit Go.ChangeShapes Go.WideShapes Go.ChangeAt Go.Joins
theorem mirrorWhole_k0 : (Rows.mirrorWholeRow.wf (OpenSpec.ofChange Rows.mirrorWholeSpec)) = true := by kernel_rfl
theorem mirrorWhole_k3 : (Try.f5.params.all (Try.prog.readableRec ·)) = true := by kernel_rfl
theorem mirrorWhole_k4 : (namedTie Try.prog Rows.mirrorWholeRow.named Rows.mirrorWholeSpec.vars) = true := by kernel_rfl
theorem mirrorWhole_k5 : (Rows.mirrorWholeRow.stops == []) = true := by kernel_rfl
theorem mirrorWhole_k7 : (Rows.mirrorWholeRow.knobs == []) = true := by kernel_rfl
theorem mirrorWhole_k9 : (Rows.mirrorWholeRow.inPlace == Try.prog.inPlace 5) = true := by kernel_rfl
theorem mirrorWhole_k10 : (Rows.mirrorWholeRow.unfollowed == Try.prog.unfollowed 5) = true := by kernel_rfl
theorem mirrorWhole_k11 : (Rows.mirrorWholeRow.recurses == Try.prog.recurses 5) = true := by kernel_rfl
theorem mirrorWhole_k12 : (Rows.mirrorWholeRow.named == Try.prog.varsNamed 5) = true := by kernel_rfl
theorem mirrorWhole_k13 : (Rows.mirrorWholeRow.maps == (Try.f5.params.toList ++ Rows.mirrorWholeSpec.plain.varTypes Try.prog).any (Try.prog.mapsRec ·)) = true := by kernel_rfl
theorem mirrorWhole_k14 : (Rows.mirrorWholeRow.ifaces == (Try.f5.params.toList ++ Rows.mirrorWholeSpec.plain.varTypes Try.prog).any (Try.prog.ifacesRec ·)) = true := by kernel_rfl
theorem mirrorWhole_k15 : (Rows.mirrorWholeRow.mapsOut == Try.prog.mapsAmong Try.f5.resultTypes.toList) = true := by kernel_rfl
theorem mirrorWhole_k16 : (Rows.mirrorWholeRow.loops == (Try.f5.params.toList ++ Rows.mirrorWholeSpec.plain.varTypes Try.prog).any (Try.prog.loopsFrom ·)) = true := by kernel_rfl
theorem mirrorWhole_k17 : (Rows.mirrorWholeRow.wideKeys == (Try.f5.params.toList ++ Rows.mirrorWholeSpec.plain.varTypes Try.prog ++ Try.f5.resultTypes.toList).any (Try.prog.wideKeysFrom ·)) = true := by kernel_rfl
theorem mirrorWhole_k18 : (Rows.mirrorWholeSpec.vars.all (Try.prog.varReadable ·)) = true := by kernel_rfl
theorem mirrorWhole_k19 : (Try.f5.resultTypes.all (fun t => Try.prog.readableRec t && decide (t < Try.prog.types.size))) = true := by kernel_rfl
theorem mirrorWhole_k20 : (Rows.mirrorWholeRow.ifacesOut == Try.f5.resultTypes.toList.any (Try.prog.ifacesRec ·)) = true := by kernel_rfl
theorem mirrorWhole_k21 : (Rows.mirrorWholeRow.loopsOut == Try.f5.resultTypes.toList.any (Try.prog.loopsFrom ·)) = true := by kernel_rfl
theorem mirrorWhole_k22 : (Rows.mirrorWholeRow.plainKeys == Try.prog.plainKeys) = true := by rw [prog_keys]; rfl
theorem mirrorWhole_k23 : (Rows.mirrorWholeRow.shortTexts.isNone) = true := by kernel_rfl
theorem mirrorWhole_k26 : (Rows.mirrorWholeRow.lifted == Try.prog.liftsFinal) = true := by rw [prog_final]; rfl
theorem mirrorWhole_k27 : (Try.prog.make == some Rows.mirrorWholeRow.make) = true := by rw [prog_make]; rfl
theorem mirrorWhole_k28 : (Rows.mirrorWholeRow.kinds == (if Rows.mirrorWholeRow.domain.isEmpty then [] else Try.f5.params.toList.map fun t => match Try.prog.underlying t with | some (.int k) => some k | _ => none)) = true := by kernel_rfl
theorem mirrorWhole_k29 : (Rows.mirrorWholeRow.pinned == Rows.mirrorWholeRow.pinnedBy) = true := by kernel_rfl
theorem mirrorWhole_k30 : (Rows.mirrorWholeRow.veiled == (Try.f5.params.toList ++ Rows.mirrorWholeSpec.plain.varTypes Try.prog ++ Try.f5.resultTypes.toList).any (Try.prog.veiledRec ·)) = true := by kernel_rfl
theorem mirrorWhole_k31 : (Rows.mirrorWholeRow.veiledFits Try.prog Try.f5.params.toList (Try.f5.params.toList ++ Rows.mirrorWholeSpec.plain.varTypes Try.prog ++ Try.f5.resultTypes.toList)) = true := by kernel_rfl
set_option maxRecDepth 100000 in
theorem mirrorWhole_closed : joinedFacts Try.prog 5 Try.f5 Rows.mirrorWholeSpec Rows.mirrorWholeRow = true := (and2 (and2 (and2 (and2 (and2 (and2 (and2 (and2 (and2 (and2 (and2 (and2 (and2 (and2 (and2 (and2 (and2 (and2 (and2 (and2 (and2 (and2 (and2 (and2 (and2 (and2 (and2 (and2 (and2 (and2 (and2 mirrorWhole_k0 laidOut) prog_maps) mirrorWhole_k3) mirrorWhole_k4) mirrorWhole_k5) prog_stops) mirrorWhole_k7) prog_knobs) mirrorWhole_k9) mirrorWhole_k10) mirrorWhole_k11) mirrorWhole_k12) mirrorWhole_k13) mirrorWhole_k14) mirrorWhole_k15) mirrorWhole_k16) mirrorWhole_k17) mirrorWhole_k18) mirrorWhole_k19) mirrorWhole_k20) mirrorWhole_k21) mirrorWhole_k22) mirrorWhole_k23) prog_heard) prog_enter) mirrorWhole_k26) mirrorWhole_k27) mirrorWhole_k28) mirrorWhole_k29) mirrorWhole_k30) mirrorWhole_k31)
theorem mirrorWhole_named : Try.prog.funcNamed Rows.mirrorWholeRow.func = some 5 := by kernel_rfl
theorem mirrorWhole_inst : Try.f5.isInstance Try.prog Rows.mirrorWholeRow.origin Rows.mirrorWholeRow.targs := of_decide_eq_true (by kernel_rfl)
theorem mirrorWhole_wrap : Try.f5.isWrapper Try.prog Rows.mirrorWholeRow.wrapper Rows.mirrorWholeRow.mainSum := by unfold Func.isWrapper; first | (rw [if_pos (by decide +kernel)]; kernel_rfl) | (rw [if_neg (by decide +kernel)]; exact ⟨rfl, rfl⟩)
set_option maxRecDepth 100000 in
theorem mirrorWhole_lifted (os : Os) (started : os.Started) (H : Type) (enc : TypeId × Value → H) :
    ReturnsInHanded {} Try.checked os 5 .any (Rows.mirrorWholeSpec.pre6 enc Try.prog Try.f5 Rows.mirrorWholeRow.domain false) (Rows.mirrorWholeSpec.post enc Try.prog Try.f5 false true false false) := by
  refine returnsInHanded_of_change (C := Try.checked) own started (by kernel_rfl) Try.func5
    (ChangeSpec.witness6 (enc := enc) (C := Try.checked) false ⟨#[], #[.agg #[.slice none 0 0, .slice none 0 0, .int .i64 0]], []⟩ 8 (by kernel_rfl) (by kernel_rfl) (by kernel_rfl) (by kernel_rfl)) ?_
  intro W base args ds gs before hval0 hW hcnd _
  have hval : ∀ (j : Nat) t v, Try.f5.params[j]? = some t → args[j]? = some v → Value.okWide Try.prog W .any base t v := hval0
  have hW' := hW
  obtain ⟨p, q, hA0, hV, rfl, hfz, hnd⟩ := hW
  have hA : DataW.TrodAll enc Try.prog W 0 (fun _ => true) true Try.f5.params.toList args.toList ds p := hA0
  rw [Try.params5] at hA hval
  obtain ⟨v0, vs0, d0, ds0, p0, q0, hargs, rfl, rfl, h0, r0⟩ := trodAll_cons hA
  obtain ⟨rfl, rfl, rfl⟩ := trodAll_nil r0
  obtain rfl : args = #[v0] := by cases args; simp_all
  obtain ⟨rfl, rfl⟩ := trodVars_none hV
  obtain ⟨S0, M0, L0, aS0, aM0, cS0, cM0, rfl, hS0, hM0, lS0, lM0, wL0⟩ := open_diag (hval 0 24 v0 rfl rfl) h0
  have k0 := h0
  have lt0 : ∀ x ∈ p0, x.block < W.heap.size := by obtain ⟨m, hm⟩ := k0; exact DataW.trod_lt m _ _ _ hm
  clear hA0 hval0
  refine (mwh_any S0 M0 L0 aS0 aM0 cS0 cM0 W lS0 lM0 wL0 hS0 hM0).mono fun e W' ⟨he, bel⟩ => ?_
  subst he
  exact ⟨_, rfl, _, _, _, [], _, [], hW', trodAll_mk1 (shut_bool Try.underlying4 _), (trodAll_cons_mk (Below.trod laidOut (by kernel_rfl) (of_decide_eq_true (by kernel_rfl)) k0 bel lt0) trodAll_mk0), rfl, bel.frame _, fun h => by cases h⟩
theorem mirrorWhole_holds : Rows.MirrorWholeSaid :=
  OpenClaim.holds_of_wide 5 Try.f5 rfl rfl rfl rfl rfl rfl rfl ⟨rfl, rfl, rfl, rfl, rfl⟩ rfl rfl rfl rfl rfl mirrorWhole_named Try.func5 mirrorWhole_closed mirrorWhole_inst mirrorWhole_wrap
    (fun os started H enc _ => mirrorWhole_lifted os started H enc)
#print axioms mirrorWhole_holds
end Go.Proofs.Ytkopbcehfbmnmaa
