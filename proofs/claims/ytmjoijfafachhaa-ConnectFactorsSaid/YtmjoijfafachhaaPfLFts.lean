/- ConnectFactors: Factors returns the specified prime factors: they have no cuts, and as many crossings as the diagram: the law returns true for every input. -/
import Derived.Test.YtmjoijfafachhaaFrame0
import Derived.Test.YtmjoijfafachhaaLFts
namespace Go.Proofs.Ytmjoijfafachhaa
open Go Go.RowKit Go.ChangeShapes Go.WideShapes Go.ChangeAt Go.Joins
theorem connectFactors_k0 : (Rows.connectFactorsRow.wf (OpenSpec.ofChange Rows.connectFactorsSpec)) = true := by kernel_rfl
theorem connectFactors_k3 : (Try.f7.params.all (Try.prog.readableRec ·)) = true := by kernel_rfl
theorem connectFactors_k4 : (namedTie Try.prog Rows.connectFactorsRow.named Rows.connectFactorsSpec.vars) = true := by kernel_rfl
theorem connectFactors_k5 : (Rows.connectFactorsRow.stops == []) = true := by kernel_rfl
theorem connectFactors_k7 : (Rows.connectFactorsRow.knobs == []) = true := by kernel_rfl
theorem connectFactors_k9 : (Rows.connectFactorsRow.inPlace == Try.prog.inPlace 7) = true := by kernel_rfl
theorem connectFactors_k10 : (Rows.connectFactorsRow.unfollowed == Try.prog.unfollowed 7) = true := by kernel_rfl
theorem connectFactors_k11 : (Rows.connectFactorsRow.recurses == Try.prog.recurses 7) = true := by kernel_rfl
theorem connectFactors_k12 : (Rows.connectFactorsRow.named == Try.prog.varsNamed 7) = true := by kernel_rfl
theorem connectFactors_k13 : (Rows.connectFactorsRow.maps == (Try.f7.params.toList ++ Rows.connectFactorsSpec.plain.varTypes Try.prog).any (Try.prog.mapsRec ·)) = true := by kernel_rfl
theorem connectFactors_k14 : (Rows.connectFactorsRow.ifaces == (Try.f7.params.toList ++ Rows.connectFactorsSpec.plain.varTypes Try.prog).any (Try.prog.ifacesRec ·)) = true := by kernel_rfl
theorem connectFactors_k15 : (Rows.connectFactorsRow.mapsOut == Try.prog.mapsAmong Try.f7.resultTypes.toList) = true := by kernel_rfl
theorem connectFactors_k16 : (Rows.connectFactorsRow.loops == (Try.f7.params.toList ++ Rows.connectFactorsSpec.plain.varTypes Try.prog).any (Try.prog.loopsFrom ·)) = true := by kernel_rfl
theorem connectFactors_k17 : (Rows.connectFactorsRow.wideKeys == (Try.f7.params.toList ++ Rows.connectFactorsSpec.plain.varTypes Try.prog ++ Try.f7.resultTypes.toList).any (Try.prog.wideKeysFrom ·)) = true := by kernel_rfl
theorem connectFactors_k18 : (Rows.connectFactorsSpec.vars.all (Try.prog.varReadable ·)) = true := by kernel_rfl
theorem connectFactors_k19 : (Try.f7.resultTypes.all (fun t => Try.prog.readableRec t && decide (t < Try.prog.types.size))) = true := by kernel_rfl
theorem connectFactors_k20 : (Rows.connectFactorsRow.ifacesOut == Try.f7.resultTypes.toList.any (Try.prog.ifacesRec ·)) = true := by kernel_rfl
theorem connectFactors_k21 : (Rows.connectFactorsRow.loopsOut == Try.f7.resultTypes.toList.any (Try.prog.loopsFrom ·)) = true := by kernel_rfl
theorem connectFactors_k22 : (Rows.connectFactorsRow.plainKeys == Try.prog.plainKeys) = true := by rw [prog_keys]; rfl
theorem connectFactors_k23 : (Rows.connectFactorsRow.shortTexts.isNone) = true := by kernel_rfl
theorem connectFactors_k26 : (Rows.connectFactorsRow.lifted == Try.prog.liftsFinal) = true := by rw [prog_final]; rfl
theorem connectFactors_k27 : (Try.prog.make == some Rows.connectFactorsRow.make) = true := by rw [prog_make]; rfl
theorem connectFactors_k28 : (Rows.connectFactorsRow.kinds == (if Rows.connectFactorsRow.domain.isEmpty then [] else Try.f7.params.toList.map fun t => match Try.prog.underlying t with | some (.int k) => some k | _ => none)) = true := by kernel_rfl
theorem connectFactors_k29 : (Rows.connectFactorsRow.pinned == Rows.connectFactorsRow.pinnedBy) = true := by kernel_rfl
theorem connectFactors_k30 : (Rows.connectFactorsRow.veiled == (Try.f7.params.toList ++ Rows.connectFactorsSpec.plain.varTypes Try.prog ++ Try.f7.resultTypes.toList).any (Try.prog.veiledRec ·)) = true := by kernel_rfl
theorem connectFactors_k31 : (Rows.connectFactorsRow.veiledFits Try.prog Try.f7.params.toList (Try.f7.params.toList ++ Rows.connectFactorsSpec.plain.varTypes Try.prog ++ Try.f7.resultTypes.toList)) = true := by kernel_rfl
set_option maxRecDepth 100000 in
theorem connectFactors_closed : joinedFacts Try.prog 7 Try.f7 Rows.connectFactorsSpec Rows.connectFactorsRow = true := (and2 (and2 (and2 (and2 (and2 (and2 (and2 (and2 (and2 (and2 (and2 (and2 (and2 (and2 (and2 (and2 (and2 (and2 (and2 (and2 (and2 (and2 (and2 (and2 (and2 (and2 (and2 (and2 (and2 (and2 (and2 connectFactors_k0 laidOut) prog_maps) connectFactors_k3) connectFactors_k4) connectFactors_k5) prog_stops) connectFactors_k7) prog_knobs) connectFactors_k9) connectFactors_k10) connectFactors_k11) connectFactors_k12) connectFactors_k13) connectFactors_k14) connectFactors_k15) connectFactors_k16) connectFactors_k17) connectFactors_k18) connectFactors_k19) connectFactors_k20) connectFactors_k21) connectFactors_k22) connectFactors_k23) prog_heard) prog_enter) connectFactors_k26) connectFactors_k27) connectFactors_k28) connectFactors_k29) connectFactors_k30) connectFactors_k31)
theorem connectFactors_named : Try.prog.funcNamed Rows.connectFactorsRow.func = some 7 := by kernel_rfl
theorem connectFactors_inst : Try.f7.isInstance Try.prog Rows.connectFactorsRow.origin Rows.connectFactorsRow.targs := of_decide_eq_true (by kernel_rfl)
theorem connectFactors_wrap : Try.f7.isWrapper Try.prog Rows.connectFactorsRow.wrapper Rows.connectFactorsRow.mainSum := by unfold Func.isWrapper; first | (rw [if_pos (by decide +kernel)]; kernel_rfl) | (rw [if_neg (by decide +kernel)]; exact ⟨rfl, rfl⟩)
set_option maxRecDepth 100000 in
theorem connectFactors_lifted (os : Os) (started : os.Started) (H : Type) (enc : TypeId × Value → H) :
    ReturnsInHanded {} Try.checked os 7 .any (Rows.connectFactorsSpec.pre6 enc Try.prog Try.f7 Rows.connectFactorsRow.domain false) (Rows.connectFactorsSpec.post enc Try.prog Try.f7 false true false false) := by
  refine returnsInHanded_of_change (C := Try.checked) own started (by kernel_rfl) Try.func7
    (ChangeSpec.witness6 (enc := enc) (C := Try.checked) false ⟨#[], #[.agg #[.slice none 0 0, .slice none 0 0, .int .i64 0]], []⟩ 8 (by kernel_rfl) (by kernel_rfl) (by kernel_rfl) (by kernel_rfl)) ?_
  intro W base args ds gs before hval0 hW hcnd _
  have hval : ∀ (j : Nat) t v, Try.f7.params[j]? = some t → args[j]? = some v → Value.okWide Try.prog W .any base t v := hval0
  have hW' := hW
  obtain ⟨p, q, hA0, hV, rfl, hfz, hnd⟩ := hW
  have hA : DataW.TrodAll enc Try.prog W 0 (fun _ => true) true Try.f7.params.toList args.toList ds p := hA0
  rw [Try.params7] at hA hval
  obtain ⟨v0, vs0, d0, ds0, p0, q0, hargs, rfl, rfl, h0, r0⟩ := trodAll_cons hA
  obtain ⟨rfl, rfl, rfl⟩ := trodAll_nil r0
  obtain rfl : args = #[v0] := by cases args; simp_all
  obtain ⟨rfl, rfl⟩ := trodVars_none hV
  obtain ⟨S0, M0, L0, aS0, aM0, cS0, cM0, rfl, hS0, hM0, lS0, lM0, wL0⟩ := open_diag (hval 0 24 v0 rfl rfl) h0
  have k0 := h0
  have lt0 : ∀ x ∈ p0, x.block < W.heap.size := by obtain ⟨m, hm⟩ := k0; exact DataW.trod_lt m _ _ _ hm
  clear hA0 hval0
  refine (lfts_any S0 M0 L0 aS0 aM0 cS0 cM0 W lS0 lM0 wL0 hS0 hM0).mono fun e W' ⟨he, bel⟩ => ?_
  subst he
  exact ⟨_, rfl, _, _, _, [], _, [], hW', trodAll_mk1 (shut_bool Try.underlying4 _), (trodAll_cons_mk (Below.trod laidOut (by kernel_rfl) (of_decide_eq_true (by kernel_rfl)) k0 bel lt0) trodAll_mk0), rfl, bel.frame _, fun h => by cases h⟩
theorem connectFactors_holds : Rows.ConnectFactorsSaid :=
  OpenClaim.holds_of_wide 7 Try.f7 rfl rfl rfl rfl rfl rfl rfl ⟨rfl, rfl, rfl, rfl, rfl⟩ rfl rfl rfl rfl rfl connectFactors_named Try.func7 connectFactors_closed connectFactors_inst connectFactors_wrap
    (fun os started H enc _ => connectFactors_lifted os started H enc)
#print axioms connectFactors_holds
end Go.Proofs.Ytmjoijfafachhaa
