/- LinkingSwitches: for every diagram and number the law returns true, and the arguments read afterwards as before. No condition. -/
import Derived.Test.YtkopbcehfbmnmaaFrame0
import Derived.Test.YtkopbcehfbmnmaaLSwW
namespace Go.Proofs.Ytkopbcehfbmnmaa
open Go Go.RowKit Go.ChangeShapes Go.WideShapes Go.ChangeAt Go.Joins
theorem linkingSwitches_k0 : (Rows.linkingSwitchesRow.wf (OpenSpec.ofChange Rows.linkingSwitchesSpec)) = true := by kernel_rfl
theorem linkingSwitches_k3 : (Try.f8.params.all (Try.prog.readableRec ·)) = true := by kernel_rfl
theorem linkingSwitches_k4 : (namedTie Try.prog Rows.linkingSwitchesRow.named Rows.linkingSwitchesSpec.vars) = true := by kernel_rfl
theorem linkingSwitches_k5 : (Rows.linkingSwitchesRow.stops == []) = true := by kernel_rfl
theorem linkingSwitches_k7 : (Rows.linkingSwitchesRow.knobs == []) = true := by kernel_rfl
theorem linkingSwitches_k9 : (Rows.linkingSwitchesRow.inPlace == Try.prog.inPlace 8) = true := by kernel_rfl
theorem linkingSwitches_k10 : (Rows.linkingSwitchesRow.unfollowed == Try.prog.unfollowed 8) = true := by kernel_rfl
theorem linkingSwitches_k11 : (Rows.linkingSwitchesRow.recurses == Try.prog.recurses 8) = true := by kernel_rfl
theorem linkingSwitches_k12 : (Rows.linkingSwitchesRow.named == Try.prog.varsNamed 8) = true := by kernel_rfl
theorem linkingSwitches_k13 : (Rows.linkingSwitchesRow.maps == (Try.f8.params.toList ++ Rows.linkingSwitchesSpec.plain.varTypes Try.prog).any (Try.prog.mapsRec ·)) = true := by kernel_rfl
theorem linkingSwitches_k14 : (Rows.linkingSwitchesRow.ifaces == (Try.f8.params.toList ++ Rows.linkingSwitchesSpec.plain.varTypes Try.prog).any (Try.prog.ifacesRec ·)) = true := by kernel_rfl
theorem linkingSwitches_k15 : (Rows.linkingSwitchesRow.mapsOut == Try.prog.mapsAmong Try.f8.resultTypes.toList) = true := by kernel_rfl
theorem linkingSwitches_k16 : (Rows.linkingSwitchesRow.loops == (Try.f8.params.toList ++ Rows.linkingSwitchesSpec.plain.varTypes Try.prog).any (Try.prog.loopsFrom ·)) = true := by kernel_rfl
theorem linkingSwitches_k17 : (Rows.linkingSwitchesRow.wideKeys == (Try.f8.params.toList ++ Rows.linkingSwitchesSpec.plain.varTypes Try.prog ++ Try.f8.resultTypes.toList).any (Try.prog.wideKeysFrom ·)) = true := by kernel_rfl
theorem linkingSwitches_k18 : (Rows.linkingSwitchesSpec.vars.all (Try.prog.varReadable ·)) = true := by kernel_rfl
theorem linkingSwitches_k19 : (Try.f8.resultTypes.all (fun t => Try.prog.readableRec t && decide (t < Try.prog.types.size))) = true := by kernel_rfl
theorem linkingSwitches_k20 : (Rows.linkingSwitchesRow.ifacesOut == Try.f8.resultTypes.toList.any (Try.prog.ifacesRec ·)) = true := by kernel_rfl
theorem linkingSwitches_k21 : (Rows.linkingSwitchesRow.loopsOut == Try.f8.resultTypes.toList.any (Try.prog.loopsFrom ·)) = true := by kernel_rfl
theorem linkingSwitches_k22 : (Rows.linkingSwitchesRow.plainKeys == Try.prog.plainKeys) = true := by rw [prog_keys]; rfl
theorem linkingSwitches_k23 : (Rows.linkingSwitchesRow.shortTexts.isNone) = true := by kernel_rfl
theorem linkingSwitches_k26 : (Rows.linkingSwitchesRow.lifted == Try.prog.liftsFinal) = true := by rw [prog_final]; rfl
theorem linkingSwitches_k27 : (Try.prog.make == some Rows.linkingSwitchesRow.make) = true := by rw [prog_make]; rfl
theorem linkingSwitches_k28 : (Rows.linkingSwitchesRow.kinds == (if Rows.linkingSwitchesRow.domain.isEmpty then [] else Try.f8.params.toList.map fun t => match Try.prog.underlying t with | some (.int k) => some k | _ => none)) = true := by kernel_rfl
theorem linkingSwitches_k29 : (Rows.linkingSwitchesRow.pinned == Rows.linkingSwitchesRow.pinnedBy) = true := by kernel_rfl
theorem linkingSwitches_k30 : (Rows.linkingSwitchesRow.veiled == (Try.f8.params.toList ++ Rows.linkingSwitchesSpec.plain.varTypes Try.prog ++ Try.f8.resultTypes.toList).any (Try.prog.veiledRec ·)) = true := by kernel_rfl
theorem linkingSwitches_k31 : (Rows.linkingSwitchesRow.veiledFits Try.prog Try.f8.params.toList (Try.f8.params.toList ++ Rows.linkingSwitchesSpec.plain.varTypes Try.prog ++ Try.f8.resultTypes.toList)) = true := by kernel_rfl
set_option maxRecDepth 100000 in
theorem linkingSwitches_closed : joinedFacts Try.prog 8 Try.f8 Rows.linkingSwitchesSpec Rows.linkingSwitchesRow = true := (and2 (and2 (and2 (and2 (and2 (and2 (and2 (and2 (and2 (and2 (and2 (and2 (and2 (and2 (and2 (and2 (and2 (and2 (and2 (and2 (and2 (and2 (and2 (and2 (and2 (and2 (and2 (and2 (and2 (and2 (and2 linkingSwitches_k0 laidOut) prog_maps) linkingSwitches_k3) linkingSwitches_k4) linkingSwitches_k5) prog_stops) linkingSwitches_k7) prog_knobs) linkingSwitches_k9) linkingSwitches_k10) linkingSwitches_k11) linkingSwitches_k12) linkingSwitches_k13) linkingSwitches_k14) linkingSwitches_k15) linkingSwitches_k16) linkingSwitches_k17) linkingSwitches_k18) linkingSwitches_k19) linkingSwitches_k20) linkingSwitches_k21) linkingSwitches_k22) linkingSwitches_k23) prog_heard) prog_enter) linkingSwitches_k26) linkingSwitches_k27) linkingSwitches_k28) linkingSwitches_k29) linkingSwitches_k30) linkingSwitches_k31)
theorem linkingSwitches_named : Try.prog.funcNamed Rows.linkingSwitchesRow.func = some 8 := by kernel_rfl
theorem linkingSwitches_inst : Try.f8.isInstance Try.prog Rows.linkingSwitchesRow.origin Rows.linkingSwitchesRow.targs := of_decide_eq_true (by kernel_rfl)
theorem linkingSwitches_wrap : Try.f8.isWrapper Try.prog Rows.linkingSwitchesRow.wrapper Rows.linkingSwitchesRow.mainSum := by unfold Func.isWrapper; first | (rw [if_pos (by decide +kernel)]; kernel_rfl) | (rw [if_neg (by decide +kernel)]; exact ⟨rfl, rfl⟩)
set_option maxRecDepth 100000 in
theorem linkingSwitches_lifted (os : Os) (started : os.Started) (H : Type) (enc : TypeId × Value → H) :
    ReturnsInHanded {} Try.checked os 8 .any (Rows.linkingSwitchesSpec.pre6 enc Try.prog Try.f8 Rows.linkingSwitchesRow.domain false) (Rows.linkingSwitchesSpec.post enc Try.prog Try.f8 false true false false) := by
  refine returnsInHanded_of_change (C := Try.checked) own started (by kernel_rfl) Try.func8
    (ChangeSpec.witness6 (enc := enc) (C := Try.checked) false ⟨#[], #[.agg #[.slice none 0 0, .slice none 0 0, .int .i64 0], .int .u8 0], []⟩ 8 (by kernel_rfl) (by kernel_rfl) (by kernel_rfl) (by kernel_rfl)) ?_
  intro W base args ds gs before hval0 hW hcnd _
  have hval : ∀ (j : Nat) t v, Try.f8.params[j]? = some t → args[j]? = some v → Value.okWide Try.prog W .any base t v := hval0
  have hW' := hW
  obtain ⟨p, q, hA0, hV, rfl, hfz, hnd⟩ := hW
  have hA : DataW.TrodAll enc Try.prog W 0 (fun _ => true) true Try.f8.params.toList args.toList ds p := hA0
  rw [Try.params8] at hA hval
  obtain ⟨v0, vs0, d0, ds0, p0, q0, hargs, rfl, rfl, h0, r0⟩ := trodAll_cons hA
  obtain ⟨v1, vs1, d1, ds1, p1, q1, rfl, rfl, rfl, h1, r1⟩ := trodAll_cons r0
  obtain ⟨rfl, rfl, rfl⟩ := trodAll_nil r1
  obtain rfl : args = #[v0, v1] := by cases args; simp_all
  obtain ⟨rfl, rfl⟩ := trodVars_none hV
  obtain ⟨S0, M0, L0, aS0, aM0, cS0, cM0, rfl, hS0, hM0, lS0, lM0, wL0⟩ := open_diag (hval 0 24 v0 rfl rfl) h0
  have k0 := h0
  have lt0 : ∀ x ∈ p0, x.block < W.heap.size := by obtain ⟨m, hm⟩ := k0; exact DataW.trod_lt m _ _ _ hm
  obtain ⟨i1, rfl, rfl, rfl, w1⟩ := open_int Try.underlying5 (hval 1 5 v1 rfl rfl) h1
  clear hA0 hval0
  refine (lsw_any S0 M0 L0 aS0 aM0 cS0 cM0 i1 W lS0 lM0 wL0 hS0 hM0 w1).mono fun e W' ⟨he, bel⟩ => ?_
  subst he
  exact ⟨_, rfl, _, _, _, [], _, [], hW', trodAll_mk1 (shut_bool Try.underlying4 _), (trodAll_cons_mk (Below.trod laidOut (by kernel_rfl) (of_decide_eq_true (by kernel_rfl)) k0 bel lt0) (trodAll_cons_mk (shut_int Try.underlying5 w1) trodAll_mk0)), rfl, bel.frame _, fun h => by cases h⟩
theorem linkingSwitches_holds : Rows.LinkingSwitchesSaid :=
  OpenClaim.holds_of_wide 8 Try.f8 rfl rfl rfl rfl rfl rfl rfl ⟨rfl, rfl, rfl, rfl, rfl⟩ rfl rfl rfl rfl rfl linkingSwitches_named Try.func8 linkingSwitches_closed linkingSwitches_inst linkingSwitches_wrap
    (fun os started H enc _ => linkingSwitches_lifted os started H enc)
#print axioms linkingSwitches_holds
end Go.Proofs.Ytkopbcehfbmnmaa
