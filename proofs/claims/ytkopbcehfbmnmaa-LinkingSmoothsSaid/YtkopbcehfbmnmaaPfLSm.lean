/- LinkingSmooths: for every diagram and every number the law returns true, and the arguments read afterwards as before. No condition. -/
import Derived.Test.YtkopbcehfbmnmaaFrame0
import Derived.Test.YtkopbcehfbmnmaaLSmW
namespace Go.Proofs.Ytkopbcehfbmnmaa
open Go Go.RowKit Go.ChangeShapes Go.WideShapes Go.ChangeAt Go.Joins
theorem linkingSmooths_k0 : (Rows.linkingSmoothsRow.wf (OpenSpec.ofChange Rows.linkingSmoothsSpec)) = true := by kernel_rfl
theorem linkingSmooths_k3 : (Try.f12.params.all (Try.prog.readableRec ·)) = true := by kernel_rfl
theorem linkingSmooths_k4 : (namedTie Try.prog Rows.linkingSmoothsRow.named Rows.linkingSmoothsSpec.vars) = true := by kernel_rfl
theorem linkingSmooths_k5 : (Rows.linkingSmoothsRow.stops == []) = true := by kernel_rfl
theorem linkingSmooths_k7 : (Rows.linkingSmoothsRow.knobs == []) = true := by kernel_rfl
theorem linkingSmooths_k9 : (Rows.linkingSmoothsRow.inPlace == Try.prog.inPlace 12) = true := by kernel_rfl
theorem linkingSmooths_k10 : (Rows.linkingSmoothsRow.unfollowed == Try.prog.unfollowed 12) = true := by kernel_rfl
theorem linkingSmooths_k11 : (Rows.linkingSmoothsRow.recurses == Try.prog.recurses 12) = true := by kernel_rfl
theorem linkingSmooths_k12 : (Rows.linkingSmoothsRow.named == Try.prog.varsNamed 12) = true := by kernel_rfl
theorem linkingSmooths_k13 : (Rows.linkingSmoothsRow.maps == (Try.f12.params.toList ++ Rows.linkingSmoothsSpec.plain.varTypes Try.prog).any (Try.prog.mapsRec ·)) = true := by kernel_rfl
theorem linkingSmooths_k14 : (Rows.linkingSmoothsRow.ifaces == (Try.f12.params.toList ++ Rows.linkingSmoothsSpec.plain.varTypes Try.prog).any (Try.prog.ifacesRec ·)) = true := by kernel_rfl
theorem linkingSmooths_k15 : (Rows.linkingSmoothsRow.mapsOut == Try.prog.mapsAmong Try.f12.resultTypes.toList) = true := by kernel_rfl
theorem linkingSmooths_k16 : (Rows.linkingSmoothsRow.loops == (Try.f12.params.toList ++ Rows.linkingSmoothsSpec.plain.varTypes Try.prog).any (Try.prog.loopsFrom ·)) = true := by kernel_rfl
theorem linkingSmooths_k17 : (Rows.linkingSmoothsRow.wideKeys == (Try.f12.params.toList ++ Rows.linkingSmoothsSpec.plain.varTypes Try.prog ++ Try.f12.resultTypes.toList).any (Try.prog.wideKeysFrom ·)) = true := by kernel_rfl
theorem linkingSmooths_k18 : (Rows.linkingSmoothsSpec.vars.all (Try.prog.varReadable ·)) = true := by kernel_rfl
theorem linkingSmooths_k19 : (Try.f12.resultTypes.all (fun t => Try.prog.readableRec t && decide (t < Try.prog.types.size))) = true := by kernel_rfl
theorem linkingSmooths_k20 : (Rows.linkingSmoothsRow.ifacesOut == Try.f12.resultTypes.toList.any (Try.prog.ifacesRec ·)) = true := by kernel_rfl
theorem linkingSmooths_k21 : (Rows.linkingSmoothsRow.loopsOut == Try.f12.resultTypes.toList.any (Try.prog.loopsFrom ·)) = true := by kernel_rfl
theorem linkingSmooths_k22 : (Rows.linkingSmoothsRow.plainKeys == Try.prog.plainKeys) = true := by rw [prog_keys]; rfl
theorem linkingSmooths_k23 : (Rows.linkingSmoothsRow.shortTexts.isNone) = true := by kernel_rfl
theorem linkingSmooths_k26 : (Rows.linkingSmoothsRow.lifted == Try.prog.liftsFinal) = true := by rw [prog_final]; rfl
theorem linkingSmooths_k27 : (Try.prog.make == some Rows.linkingSmoothsRow.make) = true := by rw [prog_make]; rfl
theorem linkingSmooths_k28 : (Rows.linkingSmoothsRow.kinds == (if Rows.linkingSmoothsRow.domain.isEmpty then [] else Try.f12.params.toList.map fun t => match Try.prog.underlying t with | some (.int k) => some k | _ => none)) = true := by kernel_rfl
theorem linkingSmooths_k29 : (Rows.linkingSmoothsRow.pinned == Rows.linkingSmoothsRow.pinnedBy) = true := by kernel_rfl
theorem linkingSmooths_k30 : (Rows.linkingSmoothsRow.veiled == (Try.f12.params.toList ++ Rows.linkingSmoothsSpec.plain.varTypes Try.prog ++ Try.f12.resultTypes.toList).any (Try.prog.veiledRec ·)) = true := by kernel_rfl
theorem linkingSmooths_k31 : (Rows.linkingSmoothsRow.veiledFits Try.prog Try.f12.params.toList (Try.f12.params.toList ++ Rows.linkingSmoothsSpec.plain.varTypes Try.prog ++ Try.f12.resultTypes.toList)) = true := by kernel_rfl
set_option maxRecDepth 100000 in
theorem linkingSmooths_closed : joinedFacts Try.prog 12 Try.f12 Rows.linkingSmoothsSpec Rows.linkingSmoothsRow = true := (and2 (and2 (and2 (and2 (and2 (and2 (and2 (and2 (and2 (and2 (and2 (and2 (and2 (and2 (and2 (and2 (and2 (and2 (and2 (and2 (and2 (and2 (and2 (and2 (and2 (and2 (and2 (and2 (and2 (and2 (and2 linkingSmooths_k0 laidOut) prog_maps) linkingSmooths_k3) linkingSmooths_k4) linkingSmooths_k5) prog_stops) linkingSmooths_k7) prog_knobs) linkingSmooths_k9) linkingSmooths_k10) linkingSmooths_k11) linkingSmooths_k12) linkingSmooths_k13) linkingSmooths_k14) linkingSmooths_k15) linkingSmooths_k16) linkingSmooths_k17) linkingSmooths_k18) linkingSmooths_k19) linkingSmooths_k20) linkingSmooths_k21) linkingSmooths_k22) linkingSmooths_k23) prog_heard) prog_enter) linkingSmooths_k26) linkingSmooths_k27) linkingSmooths_k28) linkingSmooths_k29) linkingSmooths_k30) linkingSmooths_k31)
theorem linkingSmooths_named : Try.prog.funcNamed Rows.linkingSmoothsRow.func = some 12 := by kernel_rfl
theorem linkingSmooths_inst : Try.f12.isInstance Try.prog Rows.linkingSmoothsRow.origin Rows.linkingSmoothsRow.targs := of_decide_eq_true (by kernel_rfl)
theorem linkingSmooths_wrap : Try.f12.isWrapper Try.prog Rows.linkingSmoothsRow.wrapper Rows.linkingSmoothsRow.mainSum := by unfold Func.isWrapper; first | (rw [if_pos (by decide +kernel)]; kernel_rfl) | (rw [if_neg (by decide +kernel)]; exact ⟨rfl, rfl⟩)
set_option maxRecDepth 100000 in
theorem linkingSmooths_lifted (os : Os) (started : os.Started) (H : Type) (enc : TypeId × Value → H) :
    ReturnsInHanded {} Try.checked os 12 .any (Rows.linkingSmoothsSpec.pre6 enc Try.prog Try.f12 Rows.linkingSmoothsRow.domain false) (Rows.linkingSmoothsSpec.post enc Try.prog Try.f12 false true false false) := by
  refine returnsInHanded_of_change (C := Try.checked) own started (by kernel_rfl) Try.func12
    (ChangeSpec.witness6 (enc := enc) (C := Try.checked) false ⟨#[], #[.agg #[.slice none 0 0, .slice none 0 0, .int .i64 0], .int .u8 0], []⟩ 8 (by kernel_rfl) (by kernel_rfl) (by kernel_rfl) (by kernel_rfl)) ?_
  intro W base args ds gs before hval0 hW hcnd _
  have hval : ∀ (j : Nat) t v, Try.f12.params[j]? = some t → args[j]? = some v → Value.okWide Try.prog W .any base t v := hval0
  have hW' := hW
  obtain ⟨p, q, hA0, hV, rfl, hfz, hnd⟩ := hW
  have hA : DataW.TrodAll enc Try.prog W 0 (fun _ => true) true Try.f12.params.toList args.toList ds p := hA0
  rw [Try.params12] at hA hval
  obtain ⟨v0, vs0, d0, ds0, p0, q0, hargs, rfl, rfl, h0, r0⟩ := trodAll_cons hA
  obtain ⟨v1, vs1, d1, ds1, p1, q1, rfl, rfl, rfl, h1, r1⟩ := trodAll_cons r0
  obtain ⟨rfl, rfl, rfl⟩ := trodAll_nil r1
  obtain rfl : args = #[v0, v1] := by cases args; simp_all
  obtain ⟨rfl, rfl⟩ := trodVars_none hV
  obtain ⟨S0, M0, L0, aS0, aM0, cS0, cM0, rfl, hS0, hM0, lS0, lM0, wL0⟩ := open_diag (hval 0 24 v0 rfl rfl) h0
  have k0 := h0
  have lt0 : ∀ x ∈ p0, x.block < W.heap.size := by obtain ⟨m, hm⟩ := k0; exact DataW.trod_lt m _ _ _ hm
  obtain ⟨i1, rfl, rfl, rfl, w1⟩ := open_int Try.underlying5 (hval 1 5 v1 rfl rfl) h1
  clear hA0 hval0
  refine (lsm_any S0 M0 L0 aS0 aM0 cS0 cM0 i1 W lS0 lM0 wL0 hS0 hM0 w1).mono fun e W' ⟨he, bel⟩ => ?_
  subst he
  exact ⟨_, rfl, _, _, _, [], _, [], hW', trodAll_mk1 (shut_bool Try.underlying4 _), (trodAll_cons_mk (Below.trod laidOut (by kernel_rfl) (of_decide_eq_true (by kernel_rfl)) k0 bel lt0) (trodAll_cons_mk (shut_int Try.underlying5 w1) trodAll_mk0)), rfl, bel.frame _, fun h => by cases h⟩
theorem linkingSmooths_holds : Rows.LinkingSmoothsSaid :=
  OpenClaim.holds_of_wide 12 Try.f12 rfl rfl rfl rfl rfl rfl rfl ⟨rfl, rfl, rfl, rfl, rfl⟩ rfl rfl rfl rfl rfl linkingSmooths_named Try.func12 linkingSmooths_closed linkingSmooths_inst linkingSmooths_wrap
    (fun os started H enc _ => linkingSmooths_lifted os started H enc)
#print axioms linkingSmooths_holds
end Go.Proofs.Ytkopbcehfbmnmaa
