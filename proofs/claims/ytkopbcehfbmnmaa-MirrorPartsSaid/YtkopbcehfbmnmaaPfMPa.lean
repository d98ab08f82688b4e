/- The law MirrorParts: reversing any component, switching or smoothing any crossing yields what the reference says, or the error for it. No condition. -/
import Derived.Test.YtkopbcehfbmnmaaFrame0
import Derived.Test.YtkopbcehfbmnmaaMPaB
namespace Go.Proofs.Ytkopbcehfbmnmaa
open Go Go.RowKit Go.ChangeShapes Go.WideShapes Go.ChangeAt Go.Joins
theorem mirrorParts_k0 : (Rows.mirrorPartsRow.wf (OpenSpec.ofChange Rows.mirrorPartsSpec)) = true := by kernel_rfl
theorem mirrorParts_k3 : (Try.f14.params.all (Try.prog.readableRec ·)) = true := by kernel_rfl
theorem mirrorParts_k4 : (namedTie Try.prog Rows.mirrorPartsRow.named Rows.mirrorPartsSpec.vars) = true := by kernel_rfl
theorem mirrorParts_k5 : (Rows.mirrorPartsRow.stops == []) = true := by kernel_rfl
theorem mirrorParts_k7 : (Rows.mirrorPartsRow.knobs == []) = true := by kernel_rfl
theorem mirrorParts_k9 : (Rows.mirrorPartsRow.inPlace == Try.prog.inPlace 14) = true := by kernel_rfl
theorem mirrorParts_k10 : (Rows.mirrorPartsRow.unfollowed == Try.prog.unfollowed 14) = true := by kernel_rfl
theorem mirrorParts_k11 : (Rows.mirrorPartsRow.recurses == Try.prog.recurses 14) = true := by kernel_rfl
theorem mirrorParts_k12 : (Rows.mirrorPartsRow.named == Try.prog.varsNamed 14) = true := by kernel_rfl
theorem mirrorParts_k13 : (Rows.mirrorPartsRow.maps == (Try.f14.params.toList ++ Rows.mirrorPartsSpec.plain.varTypes Try.prog).any (Try.prog.mapsRec ·)) = true := by kernel_rfl
theorem mirrorParts_k14 : (Rows.mirrorPartsRow.ifaces == (Try.f14.params.toList ++ Rows.mirrorPartsSpec.plain.varTypes Try.prog).any (Try.prog.ifacesRec ·)) = true := by kernel_rfl
theorem mirrorParts_k15 : (Rows.mirrorPartsRow.mapsOut == Try.prog.mapsAmong Try.f14.resultTypes.toList) = true := by kernel_rfl
theorem mirrorParts_k16 : (Rows.mirrorPartsRow.loops == (Try.f14.params.toList ++ Rows.mirrorPartsSpec.plain.varTypes Try.prog).any (Try.prog.loopsFrom ·)) = true := by kernel_rfl
theorem mirrorParts_k17 : (Rows.mirrorPartsRow.wideKeys == (Try.f14.params.toList ++ Rows.mirrorPartsSpec.plain.varTypes Try.prog ++ Try.f14.resultTypes.toList).any (Try.prog.wideKeysFrom ·)) = true := by kernel_rfl
theorem mirrorParts_k18 : (Rows.mirrorPartsSpec.vars.all (Try.prog.varReadable ·)) = true := by kernel_rfl
theorem mirrorParts_k19 : (Try.f14.resultTypes.all (fun t => Try.prog.readableRec t && decide (t < Try.prog.types.size))) = true := by kernel_rfl
theorem mirrorParts_k20 : (Rows.mirrorPartsRow.ifacesOut == Try.f14.resultTypes.toList.any (Try.prog.ifacesRec ·)) = true := by kernel_rfl
theorem mirrorParts_k21 : (Rows.mirrorPartsRow.loopsOut == Try.f14.resultTypes.toList.any (Try.prog.loopsFrom ·)) = true := by kernel_rfl
theorem mirrorParts_k22 : (Rows.mirrorPartsRow.plainKeys == Try.prog.plainKeys) = true := by rw [prog_keys]; rfl
theorem mirrorParts_k23 : (Rows.mirrorPartsRow.shortTexts.isNone) = true := by kernel_rfl
theorem mirrorParts_k26 : (Rows.mirrorPartsRow.lifted == Try.prog.liftsFinal) = true := by rw [prog_final]; rfl
theorem mirrorParts_k27 : (Try.prog.make == some Rows.mirrorPartsRow.make) = true := by rw [prog_make]; rfl
theorem mirrorParts_k28 : (Rows.mirrorPartsRow.kinds == (if Rows.mirrorPartsRow.domain.isEmpty then [] else Try.f14.params.toList.map fun t => match Try.prog.underlying t with | some (.int k) => some k | _ => none)) = true := by kernel_rfl
theorem mirrorParts_k29 : (Rows.mirrorPartsRow.pinned == Rows.mirrorPartsRow.pinnedBy) = true := by kernel_rfl
theorem mirrorParts_k30 : (Rows.mirrorPartsRow.veiled == (Try.f14.params.toList ++ Rows.mirrorPartsSpec.plain.varTypes Try.prog ++ Try.f14.resultTypes.toList).any (Try.prog.veiledRec ·)) = true := by kernel_rfl
theorem mirrorParts_k31 : (Rows.mirrorPartsRow.veiledFits Try.prog Try.f14.params.toList (Try.f14.params.toList ++ Rows.mirrorPartsSpec.plain.varTypes Try.prog ++ Try.f14.resultTypes.toList)) = true := by kernel_rfl
set_option maxRecDepth 100000 in
theorem mirrorParts_closed : joinedFacts Try.prog 14 Try.f14 Rows.mirrorPartsSpec Rows.mirrorPartsRow = true := (and2 (and2 (and2 (and2 (and2 (and2 (and2 (and2 (and2 (and2 (and2 (and2 (and2 (and2 (and2 (and2 (and2 (and2 (and2 (and2 (and2 (and2 (and2 (and2 (and2 (and2 (and2 (and2 (and2 (and2 (and2 mirrorParts_k0 laidOut) prog_maps) mirrorParts_k3) mirrorParts_k4) mirrorParts_k5) prog_stops) mirrorParts_k7) prog_knobs) mirrorParts_k9) mirrorParts_k10) mirrorParts_k11) mirrorParts_k12) mirrorParts_k13) mirrorParts_k14) mirrorParts_k15) mirrorParts_k16) mirrorParts_k17) mirrorParts_k18) mirrorParts_k19) mirrorParts_k20) mirrorParts_k21) mirrorParts_k22) mirrorParts_k23) prog_heard) prog_enter) mirrorParts_k26) mirrorParts_k27) mirrorParts_k28) mirrorParts_k29) mirrorParts_k30) mirrorParts_k31)
theorem mirrorParts_named : Try.prog.funcNamed Rows.mirrorPartsRow.func = some 14 := by kernel_rfl
theorem mirrorParts_inst : Try.f14.isInstance Try.prog Rows.mirrorPartsRow.origin Rows.mirrorPartsRow.targs := of_decide_eq_true (by kernel_rfl)
theorem mirrorParts_wrap : Try.f14.isWrapper Try.prog Rows.mirrorPartsRow.wrapper Rows.mirrorPartsRow.mainSum := by unfold Func.isWrapper; first | (rw [if_pos (by decide +kernel)]; kernel_rfl) | (rw [if_neg (by decide +kernel)]; exact ⟨rfl, rfl⟩)
set_option maxRecDepth 100000 in
theorem mirrorParts_lifted (os : Os) (started : os.Started) (H : Type) (enc : TypeId × Value → H) :
    ReturnsInHanded {} Try.checked os 14 .any (Rows.mirrorPartsSpec.pre6 enc Try.prog Try.f14 Rows.mirrorPartsRow.domain false) (Rows.mirrorPartsSpec.post enc Try.prog Try.f14 false true false false) := by
  refine returnsInHanded_of_change (C := Try.checked) own started (by kernel_rfl) Try.func14
    (ChangeSpec.witness6 (enc := enc) (C := Try.checked) false ⟨#[], #[.agg #[.slice none 0 0, .slice none 0 0, .int .i64 0], .int .i64 0], []⟩ 8 (by kernel_rfl) (by kernel_rfl) (by kernel_rfl) (by kernel_rfl)) ?_
  intro W base args ds gs before hval0 hW hcnd _
  have hval : ∀ (j : Nat) t v, Try.f14.params[j]? = some t → args[j]? = some v → Value.okWide Try.prog W .any base t v := hval0
  have hW' := hW
  obtain ⟨p, q, hA0, hV, rfl, hfz, hnd⟩ := hW
  have hA : DataW.TrodAll enc Try.prog W 0 (fun _ => true) true Try.f14.params.toList args.toList ds p := hA0
  rw [Try.params14] at hA hval
  obtain ⟨v0, vs0, d0, ds0, p0, q0, hargs, rfl, rfl, h0, r0⟩ := trodAll_cons hA
  obtain ⟨v1, vs1, d1, ds1, p1, q1, rfl, rfl, rfl, h1, r1⟩ := trodAll_cons r0
  obtain ⟨rfl, rfl, rfl⟩ := trodAll_nil r1
  obtain rfl : args = #[v0, v1] := by cases args; simp_all
  obtain ⟨rfl, rfl⟩ := trodVars_none hV
  obtain ⟨S0, M0, L0, aS0, aM0, cS0, cM0, rfl, hS0, hM0, lS0, lM0, wL0⟩ := open_diag (hval 0 24 v0 rfl rfl) h0
  have k0 := h0
  have lt0 : ∀ x ∈ p0, x.block < W.heap.size := by obtain ⟨m, hm⟩ := k0; exact DataW.trod_lt m _ _ _ hm
  obtain ⟨i1, rfl, rfl, rfl, w1⟩ := open_int Try.underlying3 (hval 1 3 v1 rfl rfl) h1
  clear hA0 hval0
  refine (mpa_any S0 M0 L0 aS0 aM0 cS0 cM0 i1 W lS0 lM0 wL0 hS0 hM0 w1).mono fun e W' ⟨he, bel⟩ => ?_
  subst he
  exact ⟨_, rfl, _, _, _, [], _, [], hW', trodAll_mk1 (shut_bool Try.underlying4 _), (trodAll_cons_mk (Below.trod laidOut (by kernel_rfl) (of_decide_eq_true (by kernel_rfl)) k0 bel lt0) (trodAll_cons_mk (shut_int Try.underlying3 w1) trodAll_mk0)), rfl, bel.frame _, fun h => by cases h⟩
theorem mirrorParts_holds : Rows.MirrorPartsSaid :=
  OpenClaim.holds_of_wide 14 Try.f14 rfl rfl rfl rfl rfl rfl rfl ⟨rfl, rfl, rfl, rfl, rfl⟩ rfl rfl rfl rfl rfl mirrorParts_named Try.func14 mirrorParts_closed mirrorParts_inst mirrorParts_wrap
    (fun os started H enc _ => mirrorParts_lifted os started H enc)
#print axioms mirrorParts_holds
end Go.Proofs.Ytkopbcehfbmnmaa
