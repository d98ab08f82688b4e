/- LinkingMirrors: for every diagram the law returns true, and the argument reads afterwards as before. No condition. -/
import Derived.Test.YtkopbcehfbmnmaaFrame0
import Derived.Test.YtkopbcehfbmnmaaLMirW
namespace Go.Proofs.Ytkopbcehfbmnmaa
open Go Go.RowKit Go.ChangeShapes Go.WideShapes Go.ChangeAt Go.Joins
theorem linkingMirrors_k0 : (Rows.linkingMirrorsRow.wf (OpenSpec.ofChange Rows.linkingMirrorsSpec)) = true := by kernel_rfl
theorem linkingMirrors_k3 : (Try.f11.params.all (Try.prog.readableRec ·)) = true := by kernel_rfl
theorem linkingMirrors_k4 : (namedTie Try.prog Rows.linkingMirrorsRow.named Rows.linkingMirrorsSpec.vars) = true := by kernel_rfl
theorem linkingMirrors_k5 : (Rows.linkingMirrorsRow.stops == []) = true := by kernel_rfl
theorem linkingMirrors_k7 : (Rows.linkingMirrorsRow.knobs == []) = true := by kernel_rfl
theorem linkingMirrors_k9 : (Rows.linkingMirrorsRow.inPlace == Try.prog.inPlace 11) = true := by kernel_rfl
theorem linkingMirrors_k10 : (Rows.linkingMirrorsRow.unfollowed == Try.prog.unfollowed 11) = true := by kernel_rfl
theorem linkingMirrors_k11 : (Rows.linkingMirrorsRow.recurses == Try.prog.recurses 11) = true := by kernel_rfl
theorem linkingMirrors_k12 : (Rows.linkingMirrorsRow.named == Try.prog.varsNamed 11) = true := by kernel_rfl
theorem linkingMirrors_k13 : (Rows.linkingMirrorsRow.maps == (Try.f11.params.toList ++ Rows.linkingMirrorsSpec.plain.varTypes Try.prog).any (Try.prog.mapsRec ·)) = true := by kernel_rfl
theorem linkingMirrors_k14 : (Rows.linkingMirrorsRow.ifaces == (Try.f11.params.toList ++ Rows.linkingMirrorsSpec.plain.varTypes Try.prog).any (Try.prog.ifacesRec ·)) = true := by kernel_rfl
theorem linkingMirrors_k15 : (Rows.linkingMirrorsRow.mapsOut == Try.prog.mapsAmong Try.f11.resultTypes.toList) = true := by kernel_rfl
theorem linkingMirrors_k16 : (Rows.linkingMirrorsRow.loops == (Try.f11.params.toList ++ Rows.linkingMirrorsSpec.plain.varTypes Try.prog).any (Try.prog.loopsFrom ·)) = true := by kernel_rfl
theorem linkingMirrors_k17 : (Rows.linkingMirrorsRow.wideKeys == (Try.f11.params.toList ++ Rows.linkingMirrorsSpec.plain.varTypes Try.prog ++ Try.f11.resultTypes.toList).any (Try.prog.wideKeysFrom ·)) = true := by kernel_rfl
theorem linkingMirrors_k18 : (Rows.linkingMirrorsSpec.vars.all (Try.prog.varReadable ·)) = true := by kernel_rfl
theorem linkingMirrors_k19 : (Try.f11.resultTypes.all (fun t => Try.prog.readableRec t && decide (t < Try.prog.types.size))) = true := by kernel_rfl
theorem linkingMirrors_k20 : (Rows.linkingMirrorsRow.ifacesOut == Try.f11.resultTypes.toList.any (Try.prog.ifacesRec ·)) = true := by kernel_rfl
theorem linkingMirrors_k21 : (Rows.linkingMirrorsRow.loopsOut == Try.f11.resultTypes.toList.any (Try.prog.loopsFrom ·)) = true := by kernel_rfl
theorem linkingMirrors_k22 : (Rows.linkingMirrorsRow.plainKeys == Try.prog.plainKeys) = true := by rw [prog_keys]; rfl
theorem linkingMirrors_k23 : (Rows.linkingMirrorsRow.shortTexts.isNone) = true := by kernel_rfl
theorem linkingMirrors_k26 : (Rows.linkingMirrorsRow.lifted == Try.prog.liftsFinal) = true := by rw [prog_final]; rfl
theorem linkingMirrors_k27 : (Try.prog.make == some Rows.linkingMirrorsRow.make) = true := by rw [prog_make]; rfl
theorem linkingMirrors_k28 : (Rows.linkingMirrorsRow.kinds == (if Rows.linkingMirrorsRow.domain.isEmpty then [] else Try.f11.params.toList.map fun t => match Try.prog.underlying t with | some (.int k) => some k | _ => none)) = true := by kernel_rfl
theorem linkingMirrors_k29 : (Rows.linkingMirrorsRow.pinned == Rows.linkingMirrorsRow.pinnedBy) = true := by kernel_rfl
theorem linkingMirrors_k30 : (Rows.linkingMirrorsRow.veiled == (Try.f11.params.toList ++ Rows.linkingMirrorsSpec.plain.varTypes Try.prog ++ Try.f11.resultTypes.toList).any (Try.prog.veiledRec ·)) = true := by kernel_rfl
theorem linkingMirrors_k31 : (Rows.linkingMirrorsRow.veiledFits Try.prog Try.f11.params.toList (Try.f11.params.toList ++ Rows.linkingMirrorsSpec.plain.varTypes Try.prog ++ Try.f11.resultTypes.toList)) = true := by kernel_rfl
set_option maxRecDepth 100000 in
theorem linkingMirrors_closed : joinedFacts Try.prog 11 Try.f11 Rows.linkingMirrorsSpec Rows.linkingMirrorsRow = true := (and2 (and2 (and2 (and2 (and2 (and2 (and2 (and2 (and2 (and2 (and2 (and2 (and2 (and2 (and2 (and2 (and2 (and2 (and2 (and2 (and2 (and2 (and2 (and2 (and2 (and2 (and2 (and2 (and2 (and2 (and2 linkingMirrors_k0 laidOut) prog_maps) linkingMirrors_k3) linkingMirrors_k4) linkingMirrors_k5) prog_stops) linkingMirrors_k7) prog_knobs) linkingMirrors_k9) linkingMirrors_k10) linkingMirrors_k11) linkingMirrors_k12) linkingMirrors_k13) linkingMirrors_k14) linkingMirrors_k15) linkingMirrors_k16) linkingMirrors_k17) linkingMirrors_k18) linkingMirrors_k19) linkingMirrors_k20) linkingMirrors_k21) linkingMirrors_k22) linkingMirrors_k23) prog_heard) prog_enter) linkingMirrors_k26) linkingMirrors_k27) linkingMirrors_k28) linkingMirrors_k29) linkingMirrors_k30) linkingMirrors_k31)
theorem linkingMirrors_named : Try.prog.funcNamed Rows.linkingMirrorsRow.func = some 11 := by kernel_rfl
theorem linkingMirrors_inst : Try.f11.isInstance Try.prog Rows.linkingMirrorsRow.origin Rows.linkingMirrorsRow.targs := of_decide_eq_true (by kernel_rfl)
theorem linkingMirrors_wrap : Try.f11.isWrapper Try.prog Rows.linkingMirrorsRow.wrapper Rows.linkingMirrorsRow.mainSum := by unfold Func.isWrapper; first | (rw [if_pos (by decide +kernel)]; kernel_rfl) | (rw [if_neg (by decide +kernel)]; exact ⟨rfl, rfl⟩)
set_option maxRecDepth 100000 in
theorem linkingMirrors_lifted (os : Os) (started : os.Started) (H : Type) (enc : TypeId × Value → H) :
    ReturnsInHanded {} Try.checked os 11 .any (Rows.linkingMirrorsSpec.pre6 enc Try.prog Try.f11 Rows.linkingMirrorsRow.domain false) (Rows.linkingMirrorsSpec.post enc Try.prog Try.f11 false true false false) := by
  refine returnsInHanded_of_change (C := Try.checked) own started (by kernel_rfl) Try.func11
    (ChangeSpec.witness6 (enc := enc) (C := Try.checked) false ⟨#[], #[.agg #[.slice none 0 0, .slice none 0 0, .int .i64 0]], []⟩ 8 (by kernel_rfl) (by kernel_rfl) (by kernel_rfl) (by kernel_rfl)) ?_
  intro W base args ds gs before hval0 hW hcnd _
  have hval : ∀ (j : Nat) t v, Try.f11.params[j]? = some t → args[j]? = some v → Value.okWide Try.prog W .any base t v := hval0
  have hW' := hW
  obtain ⟨p, q, hA0, hV, rfl, hfz, hnd⟩ := hW
  have hA : DataW.TrodAll enc Try.prog W 0 (fun _ => true) true Try.f11.params.toList args.toList ds p := hA0
  rw [Try.params11] at hA hval
  obtain ⟨v0, vs0, d0, ds0, p0, q0, hargs, rfl, rfl, h0, r0⟩ := trodAll_cons hA
  obtain ⟨rfl, rfl, rfl⟩ := trodAll_nil r0
  obtain rfl : args = #[v0] := by cases args; simp_all
  obtain ⟨rfl, rfl⟩ := trodVars_none hV
  obtain ⟨S0, M0, L0, aS0, aM0, cS0, cM0, rfl, hS0, hM0, lS0, lM0, wL0⟩ := open_diag (hval 0 24 v0 rfl rfl) h0
  have k0 := h0
  have lt0 : ∀ x ∈ p0, x.block < W.heap.size := by obtain ⟨m, hm⟩ := k0; exact DataW.trod_lt m _ _ _ hm
  clear hA0 hval0
  refine (lmir_any S0 M0 L0 aS0 aM0 cS0 cM0 W lS0 lM0 wL0 hS0 hM0).mono fun e W' ⟨he, bel⟩ => ?_
  subst he
  exact ⟨_, rfl, _, _, _, [], _, [], hW', trodAll_mk1 (shut_bool Try.underlying4 _), (trodAll_cons_mk (Below.trod laidOut (by kernel_rfl) (of_decide_eq_true (by kernel_rfl)) k0 bel lt0) trodAll_mk0), rfl, bel.frame _, fun h => by cases h⟩
theorem linkingMirrors_holds : Rows.LinkingMirrorsSaid :=
  OpenClaim.holds_of_wide 11 Try.f11 rfl rfl rfl rfl rfl rfl rfl ⟨rfl, rfl, rfl, rfl, rfl⟩ rfl rfl rfl rfl rfl linkingMirrors_named Try.func11 linkingMirrors_closed linkingMirrors_inst linkingMirrors_wrap
    (fun os started H enc _ => linkingMirrors_lifted os started H enc)
#print axioms linkingMirrors_holds
end Go.Proofs.Ytkopbcehfbmnmaa
