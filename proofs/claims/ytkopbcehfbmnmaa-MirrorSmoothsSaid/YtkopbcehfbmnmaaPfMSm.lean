/- MirrorSmooths: for every diagram and every number the law returns true, and the arguments read afterwards as before. No condition. -/
import Derived.Test.YtkopbcehfbmnmaaFrame0
import Derived.Test.YtkopbcehfbmnmaaMSmW
namespace Go.Proofs.Ytkopbcehfbmnmaa
open Go Go.RowKit Go.ChangeShapes Go.WideShapes Go.ChangeAt Go.Joins
theorem mirrorSmooths_k0 : (Rows.mirrorSmoothsRow.wf (OpenSpec.ofChange Rows.mirrorSmoothsSpec)) = true := by kernel_rfl
theorem mirrorSmooths_k3 : (Try.f13.params.all (Try.prog.readableRec ·)) = true := by kernel_rfl
theorem mirrorSmooths_k4 : (namedTie Try.prog Rows.mirrorSmoothsRow.named Rows.mirrorSmoothsSpec.vars) = true := by kernel_rfl
theorem mirrorSmooths_k5 : (Rows.mirrorSmoothsRow.stops == []) = true := by kernel_rfl
theorem mirrorSmooths_k7 : (Rows.mirrorSmoothsRow.knobs == []) = true := by kernel_rfl
theorem mirrorSmooths_k9 : (Rows.mirrorSmoothsRow.inPlace == Try.prog.inPlace 13) = true := by kernel_rfl
theorem mirrorSmooths_k10 : (Rows.mirrorSmoothsRow.unfollowed == Try.prog.unfollowed 13) = true := by kernel_rfl
theorem mirrorSmooths_k11 : (Rows.mirrorSmoothsRow.recurses == Try.prog.recurses 13) = true := by kernel_rfl
theorem mirrorSmooths_k12 : (Rows.mirrorSmoothsRow.named == Try.prog.varsNamed 13) = true := by kernel_rfl
theorem mirrorSmooths_k13 : (Rows.mirrorSmoothsRow.maps == (Try.f13.params.toList ++ Rows.mirrorSmoothsSpec.plain.varTypes Try.prog).any (Try.prog.mapsRec ·)) = true := by kernel_rfl
theorem mirrorSmooths_k14 : (Rows.mirrorSmoothsRow.ifaces == (Try.f13.params.toList ++ Rows.mirrorSmoothsSpec.plain.varTypes Try.prog).any (Try.prog.ifacesRec ·)) = true := by kernel_rfl
theorem mirrorSmooths_k15 : (Rows.mirrorSmoothsRow.mapsOut == Try.prog.mapsAmong Try.f13.resultTypes.toList) = true := by kernel_rfl
theorem mirrorSmooths_k16 : (Rows.mirrorSmoothsRow.loops == (Try.f13.params.toList ++ Rows.mirrorSmoothsSpec.plain.varTypes Try.prog).any (Try.prog.loopsFrom ·)) = true := by kernel_rfl
theorem mirrorSmooths_k17 : (Rows.mirrorSmoothsRow.wideKeys == (Try.f13.params.toList ++ Rows.mirrorSmoothsSpec.plain.varTypes Try.prog ++ Try.f13.resultTypes.toList).any (Try.prog.wideKeysFrom ·)) = true := by kernel_rfl
theorem mirrorSmooths_k18 : (Rows.mirrorSmoothsSpec.vars.all (Try.prog.varReadable ·)) = true := by kernel_rfl
theorem mirrorSmooths_k19 : (Try.f13.resultTypes.all (fun t => Try.prog.readableRec t && decide (t < Try.prog.types.size))) = true := by kernel_rfl
theorem mirrorSmooths_k20 : (Rows.mirrorSmoothsRow.ifacesOut == Try.f13.resultTypes.toList.any (Try.prog.ifacesRec ·)) = true := by kernel_rfl
theorem mirrorSmooths_k21 : (Rows.mirrorSmoothsRow.loopsOut == Try.f13.resultTypes.toList.any (Try.prog.loopsFrom ·)) = true := by kernel_rfl
theorem mirrorSmooths_k22 : (Rows.mirrorSmoothsRow.plainKeys == Try.prog.plainKeys) = true := by rw [prog_keys]; rfl
theorem mirrorSmooths_k23 : (Rows.mirrorSmoothsRow.shortTexts.isNone) = true := by kernel_rfl
theorem mirrorSmooths_k26 : (Rows.mirrorSmoothsRow.lifted == Try.prog.liftsFinal) = true := by rw [prog_final]; rfl
theorem mirrorSmooths_k27 : (Try.prog.make == some Rows.mirrorSmoothsRow.make) = true := by rw [prog_make]; rfl
theorem mirrorSmooths_k28 : (Rows.mirrorSmoothsRow.kinds == (if Rows.mirrorSmoothsRow.domain.isEmpty then [] else Try.f13.params.toList.map fun t => match Try.prog.underlying t with | some (.int k) => some k | _ => none)) = true := by kernel_rfl
theorem mirrorSmooths_k29 : (Rows.mirrorSmoothsRow.pinned == Rows.mirrorSmoothsRow.pinnedBy) = true := by kernel_rfl
theorem mirrorSmooths_k30 : (Rows.mirrorSmoothsRow.veiled == (Try.f13.params.toList ++ Rows.mirrorSmoothsSpec.plain.varTypes Try.prog ++ Try.f13.resultTypes.toList).any (Try.prog.veiledRec ·)) = true := by kernel_rfl
theorem mirrorSmooths_k31 : (Rows.mirrorSmoothsRow.veiledFits Try.prog Try.f13.params.toList (Try.f13.params.toList ++ Rows.mirrorSmoothsSpec.plain.varTypes Try.prog ++ Try.f13.resultTypes.toList)) = true := by kernel_rfl
set_option maxRecDepth 100000 in
theorem mirrorSmooths_closed : joinedFacts Try.prog 13 Try.f13 Rows.mirrorSmoothsSpec Rows.mirrorSmoothsRow = true := (and2 (and2 (and2 (and2 (and2 (and2 (and2 (and2 (and2 (and2 (and2 (and2 (and2 (and2 (and2 (and2 (and2 (and2 (and2 (and2 (and2 (and2 (and2 (and2 (and2 (and2 (and2 (and2 (and2 (and2 (and2 mirrorSmooths_k0 laidOut) prog_maps) mirrorSmooths_k3) mirrorSmooths_k4) mirrorSmooths_k5) prog_stops) mirrorSmooths_k7) prog_knobs) mirrorSmooths_k9) mirrorSmooths_k10) mirrorSmooths_k11) mirrorSmooths_k12) mirrorSmooths_k13) mirrorSmooths_k14) mirrorSmooths_k15) mirrorSmooths_k16) mirrorSmooths_k17) mirrorSmooths_k18) mirrorSmooths_k19) mirrorSmooths_k20) mirrorSmooths_k21) mirrorSmooths_k22) mirrorSmooths_k23) prog_heard) prog_enter) mirrorSmooths_k26) mirrorSmooths_k27) mirrorSmooths_k28) mirrorSmooths_k29) mirrorSmooths_k30) mirrorSmooths_k31)
theorem mirrorSmooths_named : Try.prog.funcNamed Rows.mirrorSmoothsRow.func = some 13 := by kernel_rfl
theorem mirrorSmooths_inst : Try.f13.isInstance Try.prog Rows.mirrorSmoothsRow.origin Rows.mirrorSmoothsRow.targs := of_decide_eq_true (by kernel_rfl)
theorem mirrorSmooths_wrap : Try.f13.isWrapper Try.prog Rows.mirrorSmoothsRow.wrapper Rows.mirrorSmoothsRow.mainSum := by unfold Func.isWrapper; first | (rw [if_pos (by decide +kernel)]; kernel_rfl) | (rw [if_neg (by decide +kernel)]; exact ⟨rfl, rfl⟩)
set_option maxRecDepth 100000 in
theorem mirrorSmooths_lifted (os : Os) (started : os.Started) (H : Type) (enc : TypeId × Value → H) :
    ReturnsInHanded {} Try.checked os 13 .any (Rows.mirrorSmoothsSpec.pre6 enc Try.prog Try.f13 Rows.mirrorSmoothsRow.domain false) (Rows.mirrorSmoothsSpec.post enc Try.prog Try.f13 false true false false) := by
  refine returnsInHanded_of_change (C := Try.checked) own started (by kernel_rfl) Try.func13
    (ChangeSpec.witness6 (enc := enc) (C := Try.checked) false ⟨#[], #[.agg #[.slice none 0 0, .slice none 0 0, .int .i64 0], .int .u8 0], []⟩ 8 (by kernel_rfl) (by kernel_rfl) (by kernel_rfl) (by kernel_rfl)) ?_
  intro W base args ds gs before hval0 hW hcnd _
  have hval : ∀ (j : Nat) t v, Try.f13.params[j]? = some t → args[j]? = some v → Value.okWide Try.prog W .any base t v := hval0
  have hW' := hW
  obtain ⟨p, q, hA0, hV, rfl, hfz, hnd⟩ := hW
  have hA : DataW.TrodAll enc Try.prog W 0 (fun _ => true) true Try.f13.params.toList args.toList ds p := hA0
  rw [Try.params13] at hA hval
  obtain ⟨v0, vs0, d0, ds0, p0, q0, hargs, rfl, rfl, h0, r0⟩ := trodAll_cons hA
  obtain ⟨v1, vs1, d1, ds1, p1, q1, rfl, rfl, rfl, h1, r1⟩ := trodAll_cons r0
  obtain ⟨rfl, rfl, rfl⟩ := trodAll_nil r1
  obtain rfl : args = #[v0, v1] := by cases args; simp_all
  obtain ⟨rfl, rfl⟩ := trodVars_none hV
  obtain ⟨S0, M0, L0, aS0, aM0, cS0, cM0, rfl, hS0, hM0, lS0, lM0, wL0⟩ := open_diag (hval 0 24 v0 rfl rfl) h0
  have k0 := h0
  have lt0 : ∀ x ∈ p0, x.block < W.heap.size := by obtain ⟨m, hm⟩ := k0; exact DataW.trod_lt m _ _ _ hm
  obtain ⟨i1, rfl, rfl, rfl, w1⟩ := open_int Try.underlying5 (hval 1 5 v1 rfl rfl) h1
  clear hA0 hval0
  refine (mss_any S0 M0 L0 aS0 aM0 cS0 cM0 i1 W lS0 lM0 wL0 hS0 hM0 w1).mono fun e W' ⟨he, bel⟩ => ?_
  subst he
  exact ⟨_, rfl, _, _, _, [], _, [], hW', trodAll_mk1 (shut_bool Try.underlying4 _), (trodAll_cons_mk (Below.trod laidOut (by kernel_rfl) (of_decide_eq_true (by kernel_rfl)) k0 bel lt0) (trodAll_cons_mk (shut_int Try.underlying5 w1) trodAll_mk0)), rfl, bel.frame _, fun h => by cases h⟩
theorem mirrorSmooths_holds : Rows.MirrorSmoothsSaid :=
  OpenClaim.holds_of_wide 13 Try.f13 rfl rfl rfl rfl rfl rfl rfl ⟨rfl, rfl, rfl, rfl, rfl⟩ rfl rfl rfl rfl rfl mirrorSmooths_named Try.func13 mirrorSmooths_closed mirrorSmooths_inst mirrorSmooths_wrap
    (fun os started H enc _ => mirrorSmooths_lifted os started H enc)
#print axioms mirrorSmooths_holds
end Go.Proofs.Ytkopbcehfbmnmaa
