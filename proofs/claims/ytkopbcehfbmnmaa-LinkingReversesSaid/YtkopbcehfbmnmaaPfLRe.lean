/- LinkingReverses: for every diagram and every number the law returns true, and the argument reads afterwards as before. No condition. -/
import Derived.Test.YtkopbcehfbmnmaaFrame0
import Derived.Test.YtkopbcehfbmnmaaLReW
namespace Go.Proofs.Ytkopbcehfbmnmaa
open Go Go.RowKit Go.ChangeShapes Go.WideShapes Go.ChangeAt Go.Joins
theorem linkingReverses_k0 : (Rows.linkingReversesRow.wf (OpenSpec.ofChange Rows.linkingReversesSpec)) = true := by kernel_rfl
theorem linkingReverses_k3 : (Try.f10.params.all (Try.prog.readableRec ·)) = true := by kernel_rfl
theorem linkingReverses_k4 : (namedTie Try.prog Rows.linkingReversesRow.named Rows.linkingReversesSpec.vars) = true := by kernel_rfl
theorem linkingReverses_k5 : (Rows.linkingReversesRow.stops == []) = true := by kernel_rfl
theorem linkingReverses_k7 : (Rows.linkingReversesRow.knobs == []) = true := by kernel_rfl
theorem linkingReverses_k9 : (Rows.linkingReversesRow.inPlace == Try.prog.inPlace 10) = true := by kernel_rfl
theorem linkingReverses_k10 : (Rows.linkingReversesRow.unfollowed == Try.prog.unfollowed 10) = true := by kernel_rfl
theorem linkingReverses_k11 : (Rows.linkingReversesRow.recurses == Try.prog.recurses 10) = true := by kernel_rfl
theorem linkingReverses_k12 : (Rows.linkingReversesRow.named == Try.prog.varsNamed 10) = true := by kernel_rfl
theorem linkingReverses_k13 : (Rows.linkingReversesRow.maps == (Try.f10.params.toList ++ Rows.linkingReversesSpec.plain.varTypes Try.prog).any (Try.prog.mapsRec ·)) = true := by kernel_rfl
theorem linkingReverses_k14 : (Rows.linkingReversesRow.ifaces == (Try.f10.params.toList ++ Rows.linkingReversesSpec.plain.varTypes Try.prog).any (Try.prog.ifacesRec ·)) = true := by kernel_rfl
theorem linkingReverses_k15 : (Rows.linkingReversesRow.mapsOut == Try.prog.mapsAmong Try.f10.resultTypes.toList) = true := by kernel_rfl
theorem linkingReverses_k16 : (Rows.linkingReversesRow.loops == (Try.f10.params.toList ++ Rows.linkingReversesSpec.plain.varTypes Try.prog).any (Try.prog.loopsFrom ·)) = true := by kernel_rfl
theorem linkingReverses_k17 : (Rows.linkingReversesRow.wideKeys == (Try.f10.params.toList ++ Rows.linkingReversesSpec.plain.varTypes Try.prog ++ Try.f10.resultTypes.toList).any (Try.prog.wideKeysFrom ·)) = true := by kernel_rfl
theorem linkingReverses_k18 : (Rows.linkingReversesSpec.vars.all (Try.prog.varReadable ·)) = true := by kernel_rfl
theorem linkingReverses_k19 : (Try.f10.resultTypes.all (fun t => Try.prog.readableRec t && decide (t < Try.prog.types.size))) = true := by kernel_rfl
theorem linkingReverses_k20 : (Rows.linkingReversesRow.ifacesOut == Try.f10.resultTypes.toList.any (Try.prog.ifacesRec ·)) = true := by kernel_rfl
theorem linkingReverses_k21 : (Rows.linkingReversesRow.loopsOut == Try.f10.resultTypes.toList.any (Try.prog.loopsFrom ·)) = true := by kernel_rfl
theorem linkingReverses_k22 : (Rows.linkingReversesRow.plainKeys == Try.prog.plainKeys) = true := by rw [prog_keys]; rfl
theorem linkingReverses_k23 : (Rows.linkingReversesRow.shortTexts.isNone) = true := by kernel_rfl
theorem linkingReverses_k26 : (Rows.linkingReversesRow.lifted == Try.prog.liftsFinal) = true := by rw [prog_final]; rfl
theorem linkingReverses_k27 : (Try.prog.make == some Rows.linkingReversesRow.make) = true := by rw [prog_make]; rfl
theorem linkingReverses_k28 : (Rows.linkingReversesRow.kinds == (if Rows.linkingReversesRow.domain.isEmpty then [] else Try.f10.params.toList.map fun t => match Try.prog.underlying t with | some (.int k) => some k | _ => none)) = true := by kernel_rfl
theorem linkingReverses_k29 : (Rows.linkingReversesRow.pinned == Rows.linkingReversesRow.pinnedBy) = true := by kernel_rfl
theorem linkingReverses_k30 : (Rows.linkingReversesRow.veiled == (Try.f10.params.toList ++ Rows.linkingReversesSpec.plain.varTypes Try.prog ++ Try.f10.resultTypes.toList).any (Try.prog.veiledRec ·)) = true := by kernel_rfl
theorem linkingReverses_k31 : (Rows.linkingReversesRow.veiledFits Try.prog Try.f10.params.toList (Try.f10.params.toList ++ Rows.linkingReversesSpec.plain.varTypes Try.prog ++ Try.f10.resultTypes.toList)) = true := by kernel_rfl
set_option maxRecDepth 100000 in
theorem linkingReverses_closed : joinedFacts Try.prog 10 Try.f10 Rows.linkingReversesSpec Rows.linkingReversesRow = true := (and2 (and2 (and2 (and2 (and2 (and2 (and2 (and2 (and2 (and2 (and2 (and2 (and2 (and2 (and2 (and2 (and2 (and2 (and2 (and2 (and2 (and2 (and2 (and2 (and2 (and2 (and2 (and2 (and2 (and2 (and2 linkingReverses_k0 laidOut) prog_maps) linkingReverses_k3) linkingReverses_k4) linkingReverses_k5) prog_stops) linkingReverses_k7) prog_knobs) linkingReverses_k9) linkingReverses_k10) linkingReverses_k11) linkingReverses_k12) linkingReverses_k13) linkingReverses_k14) linkingReverses_k15) linkingReverses_k16) linkingReverses_k17) linkingReverses_k18) linkingReverses_k19) linkingReverses_k20) linkingReverses_k21) linkingReverses_k22) linkingReverses_k23) prog_heard) prog_enter) linkingReverses_k26) linkingReverses_k27) linkingReverses_k28) linkingReverses_k29) linkingReverses_k30) linkingReverses_k31)
theorem linkingReverses_named : Try.prog.funcNamed Rows.linkingReversesRow.func = some 10 := by kernel_rfl
theorem linkingReverses_inst : Try.f10.isInstance Try.prog Rows.linkingReversesRow.origin Rows.linkingReversesRow.targs := of_decide_eq_true (by kernel_rfl)
theorem linkingReverses_wrap : Try.f10.isWrapper Try.prog Rows.linkingReversesRow.wrapper Rows.linkingReversesRow.mainSum := by unfold Func.isWrapper; first | (rw [if_pos (by decide +kernel)]; kernel_rfl) | (rw [if_neg (by decide +kernel)]; exact ⟨rfl, rfl⟩)
set_option maxRecDepth 100000 in
theorem linkingReverses_lifted (os : Os) (started : os.Started) (H : Type) (enc : TypeId × Value → H) :
    ReturnsInHanded {} Try.checked os 10 .any (Rows.linkingReversesSpec.pre6 enc Try.prog Try.f10 Rows.linkingReversesRow.domain false) (Rows.linkingReversesSpec.post enc Try.prog Try.f10 false true false false) := by
  refine returnsInHanded_of_change (C := Try.checked) own started (by kernel_rfl) Try.func10
    (ChangeSpec.witness6 (enc := enc) (C := Try.checked) false ⟨#[], #[.agg #[.slice none 0 0, .slice none 0 0, .int .i64 0], .int .u8 0], []⟩ 8 (by kernel_rfl) (by kernel_rfl) (by kernel_rfl) (by kernel_rfl)) ?_
  intro W base args ds gs before hval0 hW hcnd _
  have hval : ∀ (j : Nat) t v, Try.f10.params[j]? = some t → args[j]? = some v → Value.okWide Try.prog W .any base t v := hval0
  have hW' := hW
  obtain ⟨p, q, hA0, hV, rfl, hfz, hnd⟩ := hW
  have hA : DataW.TrodAll enc Try.prog W 0 (fun _ => true) true Try.f10.params.toList args.toList ds p := hA0
  rw [Try.params10] at hA hval
  obtain ⟨v0, vs0, d0, ds0, p0, q0, hargs, rfl, rfl, h0, r0⟩ := trodAll_cons hA
  obtain ⟨v1, vs1, d1, ds1, p1, q1, rfl, rfl, rfl, h1, r1⟩ := trodAll_cons r0
  obtain ⟨rfl, rfl, rfl⟩ := trodAll_nil r1
  obtain rfl : args = #[v0, v1] := by cases args; simp_all
  obtain ⟨rfl, rfl⟩ := trodVars_none hV
  obtain ⟨S0, M0, L0, aS0, aM0, cS0, cM0, rfl, hS0, hM0, lS0, lM0, wL0⟩ := open_diag (hval 0 24 v0 rfl rfl) h0
  have k0 := h0
  have lt0 : ∀ x ∈ p0, x.block < W.heap.size := by obtain ⟨m, hm⟩ := k0; exact DataW.trod_lt m _ _ _ hm
  obtain ⟨i1, rfl, rfl, rfl, w1⟩ := open_int Try.underlying5 (hval 1 5 v1 rfl rfl) h1
  clear hA0 hval0
  refine (lre_any S0 M0 L0 aS0 aM0 cS0 cM0 i1 W lS0 lM0 wL0 hS0 hM0 w1).mono fun e W' ⟨he, bel⟩ => ?_
  subst he
  exact ⟨_, rfl, _, _, _, [], _, [], hW', trodAll_mk1 (shut_bool Try.underlying4 _), (trodAll_cons_mk (Below.trod laidOut (by kernel_rfl) (of_decide_eq_true (by kernel_rfl)) k0 bel lt0) (trodAll_cons_mk (shut_int Try.underlying5 w1) trodAll_mk0)), rfl, bel.frame _, fun h => by cases h⟩
theorem linkingReverses_holds : Rows.LinkingReversesSaid :=
  OpenClaim.holds_of_wide 10 Try.f10 rfl rfl rfl rfl rfl rfl rfl ⟨rfl, rfl, rfl, rfl, rfl⟩ rfl rfl rfl rfl rfl linkingReverses_named Try.func10 linkingReverses_closed linkingReverses_inst linkingReverses_wrap
    (fun os started H enc _ => linkingReverses_lifted os started H enc)
#print axioms linkingReverses_holds
end Go.Proofs.Ytkopbcehfbmnmaa
