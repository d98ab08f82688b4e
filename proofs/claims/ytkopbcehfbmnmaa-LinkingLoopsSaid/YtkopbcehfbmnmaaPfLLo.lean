/- LinkingLoops: for every diagram and number the law returns true, and the arguments read afterwards as before. No condition. -/
import Derived.Test.YtkopbcehfbmnmaaFrame0
import Derived.Test.YtkopbcehfbmnmaaLLoW
namespace Go.Proofs.Ytkopbcehfbmnmaa
open Go Go.RowKit Go.ChangeShapes Go.WideShapes Go.ChangeAt Go.Joins
theorem linkingLoops_k0 : (Rows.linkingLoopsRow.wf (OpenSpec.ofChange Rows.linkingLoopsSpec)) = true := by kernel_rfl
theorem linkingLoops_k3 : (Try.f9.params.all (Try.prog.readableRec ·)) = true := by kernel_rfl
theorem linkingLoops_k4 : (namedTie Try.prog Rows.linkingLoopsRow.named Rows.linkingLoopsSpec.vars) = true := by kernel_rfl
theorem linkingLoops_k5 : (Rows.linkingLoopsRow.stops == []) = true := by kernel_rfl
theorem linkingLoops_k7 : (Rows.linkingLoopsRow.knobs == []) = true := by kernel_rfl
theorem linkingLoops_k9 : (Rows.linkingLoopsRow.inPlace == Try.prog.inPlace 9) = true := by kernel_rfl
theorem linkingLoops_k10 : (Rows.linkingLoopsRow.unfollowed == Try.prog.unfollowed 9) = true := by kernel_rfl
theorem linkingLoops_k11 : (Rows.linkingLoopsRow.recurses == Try.prog.recurses 9) = true := by kernel_rfl
theorem linkingLoops_k12 : (Rows.linkingLoopsRow.named == Try.prog.varsNamed 9) = true := by kernel_rfl
theorem linkingLoops_k13 : (Rows.linkingLoopsRow.maps == (Try.f9.params.toList ++ Rows.linkingLoopsSpec.plain.varTypes Try.prog).any (Try.prog.mapsRec ·)) = true := by kernel_rfl
theorem linkingLoops_k14 : (Rows.linkingLoopsRow.ifaces == (Try.f9.params.toList ++ Rows.linkingLoopsSpec.plain.varTypes Try.prog).any (Try.prog.ifacesRec ·)) = true := by kernel_rfl
theorem linkingLoops_k15 : (Rows.linkingLoopsRow.mapsOut == Try.prog.mapsAmong Try.f9.resultTypes.toList) = true := by kernel_rfl
theorem linkingLoops_k16 : (Rows.linkingLoopsRow.loops == (Try.f9.params.toList ++ Rows.linkingLoopsSpec.plain.varTypes Try.prog).any (Try.prog.loopsFrom ·)) = true := by kernel_rfl
theorem linkingLoops_k17 : (Rows.linkingLoopsRow.wideKeys == (Try.f9.params.toList ++ Rows.linkingLoopsSpec.plain.varTypes Try.prog ++ Try.f9.resultTypes.toList).any (Try.prog.wideKeysFrom ·)) = true := by kernel_rfl
theorem linkingLoops_k18 : (Rows.linkingLoopsSpec.vars.all (Try.prog.varReadable ·)) = true := by kernel_rfl
theorem linkingLoops_k19 : (Try.f9.resultTypes.all (fun t => Try.prog.readableRec t && decide (t < Try.prog.types.size))) = true := by kernel_rfl
theorem linkingLoops_k20 : (Rows.linkingLoopsRow.ifacesOut == Try.f9.resultTypes.toList.any (Try.prog.ifacesRec ·)) = true := by kernel_rfl
theorem linkingLoops_k21 : (Rows.linkingLoopsRow.loopsOut == Try.f9.resultTypes.toList.any (Try.prog.loopsFrom ·)) = true := by kernel_rfl
theorem linkingLoops_k22 : (Rows.linkingLoopsRow.plainKeys == Try.prog.plainKeys) = true := by rw [prog_keys]; rfl
theorem linkingLoops_k23 : (Rows.linkingLoopsRow.shortTexts.isNone) = true := by kernel_rfl
theorem linkingLoops_k26 : (Rows.linkingLoopsRow.lifted == Try.prog.liftsFinal) = true := by rw [prog_final]; rfl
theorem linkingLoops_k27 : (Try.prog.make == some Rows.linkingLoopsRow.make) = true := by rw [prog_make]; rfl
theorem linkingLoops_k28 : (Rows.linkingLoopsRow.kinds == (if Rows.linkingLoopsRow.domain.isEmpty then [] else Try.f9.params.toList.map fun t => match Try.prog.underlying t with | some (.int k) => some k | _ => none)) = true := by kernel_rfl
theorem linkingLoops_k29 : (Rows.linkingLoopsRow.pinned == Rows.linkingLoopsRow.pinnedBy) = true := by kernel_rfl
theorem linkingLoops_k30 : (Rows.linkingLoopsRow.veiled == (Try.f9.params.toList ++ Rows.linkingLoopsSpec.plain.varTypes Try.prog ++ Try.f9.resultTypes.toList).any (Try.prog.veiledRec ·)) = true := by kernel_rfl
theorem linkingLoops_k31 : (Rows.linkingLoopsRow.veiledFits Try.prog Try.f9.params.toList (Try.f9.params.toList ++ Rows.linkingLoopsSpec.plain.varTypes Try.prog ++ Try.f9.resultTypes.toList)) = true := by kernel_rfl
set_option maxRecDepth 100000 in
theorem linkingLoops_closed : joinedFacts Try.prog 9 Try.f9 Rows.linkingLoopsSpec Rows.linkingLoopsRow = true := (and2 (and2 (and2 (and2 (and2 (and2 (and2 (and2 (and2 (and2 (and2 (and2 (and2 (and2 (and2 (and2 (and2 (and2 (and2 (and2 (and2 (and2 (and2 (and2 (and2 (and2 (and2 (and2 (and2 (and2 (and2 linkingLoops_k0 laidOut) prog_maps) linkingLoops_k3) linkingLoops_k4) linkingLoops_k5) prog_stops) linkingLoops_k7) prog_knobs) linkingLoops_k9) linkingLoops_k10) linkingLoops_k11) linkingLoops_k12) linkingLoops_k13) linkingLoops_k14) linkingLoops_k15) linkingLoops_k16) linkingLoops_k17) linkingLoops_k18) linkingLoops_k19) linkingLoops_k20) linkingLoops_k21) linkingLoops_k22) linkingLoops_k23) prog_heard) prog_enter) linkingLoops_k26) linkingLoops_k27) linkingLoops_k28) linkingLoops_k29) linkingLoops_k30) linkingLoops_k31)
theorem linkingLoops_named : Try.prog.funcNamed Rows.linkingLoopsRow.func = some 9 := by kernel_rfl
theorem linkingLoops_inst : Try.f9.isInstance Try.prog Rows.linkingLoopsRow.origin Rows.linkingLoopsRow.targs := of_decide_eq_true (by kernel_rfl)
theorem linkingLoops_wrap : Try.f9.isWrapper Try.prog Rows.linkingLoopsRow.wrapper Rows.linkingLoopsRow.mainSum := by unfold Func.isWrapper; first | (rw [if_pos (by decide +kernel)]; kernel_rfl) | (rw [if_neg (by decide +kernel)]; exact ⟨rfl, rfl⟩)
set_option maxRecDepth 100000 in
theorem linkingLoops_lifted (os : Os) (started : os.Started) (H : Type) (enc : TypeId × Value → H) :
    ReturnsInHanded {} Try.checked os 9 .any (Rows.linkingLoopsSpec.pre6 enc Try.prog Try.f9 Rows.linkingLoopsRow.domain false) (Rows.linkingLoopsSpec.post enc Try.prog Try.f9 false true false false) := by
  refine returnsInHanded_of_change (C := Try.checked) own started (by kernel_rfl) Try.func9
    (ChangeSpec.witness6 (enc := enc) (C := Try.checked) false ⟨#[], #[.agg #[.slice none 0 0, .slice none 0 0, .int .i64 0], .int .u8 0], []⟩ 8 (by kernel_rfl) (by kernel_rfl) (by kernel_rfl) (by kernel_rfl)) ?_
  intro W base args ds gs before hval0 hW hcnd _
  have hval : ∀ (j : Nat) t v, Try.f9.params[j]? = some t → args[j]? = some v → Value.okWide Try.prog W .any base t v := hval0
  have hW' := hW
  obtain ⟨p, q, hA0, hV, rfl, hfz, hnd⟩ := hW
  have hA : DataW.TrodAll enc Try.prog W 0 (fun _ => true) true Try.f9.params.toList args.toList ds p := hA0
  rw [Try.params9] at hA hval
  obtain ⟨v0, vs0, d0, ds0, p0, q0, hargs, rfl, rfl, h0, r0⟩ := trodAll_cons hA
  obtain ⟨v1, vs1, d1, ds1, p1, q1, rfl, rfl, rfl, h1, r1⟩ := trodAll_cons r0
  obtain ⟨rfl, rfl, rfl⟩ := trodAll_nil r1
  obtain rfl : args = #[v0, v1] := by cases args; simp_all
  obtain ⟨rfl, rfl⟩ := trodVars_none hV
  obtain ⟨S0, M0, L0, aS0, aM0, cS0, cM0, rfl, hS0, hM0, lS0, lM0, wL0⟩ := open_diag (hval 0 24 v0 rfl rfl) h0
  have k0 := h0
  have lt0 : ∀ x ∈ p0, x.block < W.heap.size := by obtain ⟨m, hm⟩ := k0; exact DataW.trod_lt m _ _ _ hm
  obtain ⟨i1, rfl, rfl, rfl, w1⟩ := open_int Try.underlying5 (hval 1 5 v1 rfl rfl) h1
  clear hA0 hval0
  refine (llo_any S0 M0 L0 aS0 aM0 cS0 cM0 i1 W lS0 lM0 wL0 hS0 hM0 w1).mono fun e W' ⟨he, bel⟩ => ?_
  subst he
  exact ⟨_, rfl, _, _, _, [], _, [], hW', trodAll_mk1 (shut_bool Try.underlying4 _), (trodAll_cons_mk (Below.trod laidOut (by kernel_rfl) (of_decide_eq_true (by kernel_rfl)) k0 bel lt0) (trodAll_cons_mk (shut_int Try.underlying5 w1) trodAll_mk0)), rfl, bel.frame _, fun h => by cases h⟩
theorem linkingLoops_holds : Rows.LinkingLoopsSaid :=
  OpenClaim.holds_of_wide 9 Try.f9 rfl rfl rfl rfl rfl rfl rfl ⟨rfl, rfl, rfl, rfl, rfl⟩ rfl rfl rfl rfl rfl linkingLoops_named Try.func9 linkingLoops_closed linkingLoops_inst linkingLoops_wrap
    (fun os started H enc _ => linkingLoops_lifted os started H enc)
#print axioms linkingLoops_holds
end Go.Proofs.Ytkopbcehfbmnmaa
