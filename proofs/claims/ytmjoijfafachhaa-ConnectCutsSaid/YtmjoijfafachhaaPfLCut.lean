/- ConnectCuts: two edges are a cut exactly if a graph component falls apart without them: the law returns true for every input. -/
import Derived.Test.YtmjoijfafachhaaFrame0
import Derived.Test.YtmjoijfafachhaaLCut
namespace Go.Proofs.Ytmjoijfafachhaa
open Go Go.RowKit Go.ChangeShapes Go.WideShapes Go.ChangeAt Go.Joins
theorem connectCuts_k0 : (Rows.connectCutsRow.wf (OpenSpec.ofChange Rows.connectCutsSpec)) = true := by kernel_rfl
theorem connectCuts_k3 : (Try.f5.params.all (Try.prog.readableRec ·)) = true := by kernel_rfl
theorem connectCuts_k4 : (namedTie Try.prog Rows.connectCutsRow.named Rows.connectCutsSpec.vars) = true := by kernel_rfl
theorem connectCuts_k5 : (Rows.connectCutsRow.stops == []) = true := by kernel_rfl
theorem connectCuts_k7 : (Rows.connectCutsRow.knobs == []) = true := by kernel_rfl
theorem connectCuts_k9 : (Rows.connectCutsRow.inPlace == Try.prog.inPlace 5) = true := by kernel_rfl
theorem connectCuts_k10 : (Rows.connectCutsRow.unfollowed == Try.prog.unfollowed 5) = true := by kernel_rfl
theorem connectCuts_k11 : (Rows.connectCutsRow.recurses == Try.prog.recurses 5) = true := by kernel_rfl
theorem connectCuts_k12 : (Rows.connectCutsRow.named == Try.prog.varsNamed 5) = true := by kernel_rfl
theorem connectCuts_k13 : (Rows.connectCutsRow.maps == (Try.f5.params.toList ++ Rows.connectCutsSpec.plain.varTypes Try.prog).any (Try.prog.mapsRec ·)) = true := by kernel_rfl
theorem connectCuts_k14 : (Rows.connectCutsRow.ifaces == (Try.f5.params.toList ++ Rows.connectCutsSpec.plain.varTypes Try.prog).any (Try.prog.ifacesRec ·)) = true := by kernel_rfl
theorem connectCuts_k15 : (Rows.connectCutsRow.mapsOut == Try.prog.mapsAmong Try.f5.resultTypes.toList) = true := by kernel_rfl
theorem connectCuts_k16 : (Rows.connectCutsRow.loops == (Try.f5.params.toList ++ Rows.connectCutsSpec.plain.varTypes Try.prog).any (Try.prog.loopsFrom ·)) = true := by kernel_rfl
theorem connectCuts_k17 : (Rows.connectCutsRow.wideKeys == (Try.f5.params.toList ++ Rows.connectCutsSpec.plain.varTypes Try.prog ++ Try.f5.resultTypes.toList).any (Try.prog.wideKeysFrom ·)) = true := by kernel_rfl
theorem connectCuts_k18 : (Rows.connectCutsSpec.vars.all (Try.prog.varReadable ·)) = true := by kernel_rfl
theorem connectCuts_k19 : (Try.f5.resultTypes.all (fun t => Try.prog.readableRec t && decide (t < Try.prog.types.size))) = true := by kernel_rfl
theorem connectCuts_k20 : (Rows.connectCutsRow.ifacesOut == Try.f5.resultTypes.toList.any (Try.prog.ifacesRec ·)) = true := by kernel_rfl
theorem connectCuts_k21 : (Rows.connectCutsRow.loopsOut == Try.f5.resultTypes.toList.any (Try.prog.loopsFrom ·)) = true := by kernel_rfl
theorem connectCuts_k22 : (Rows.connectCutsRow.plainKeys == Try.prog.plainKeys) = true := by rw [prog_keys]; rfl
theorem connectCuts_k23 : (Rows.connectCutsRow.shortTexts.isNone) = true := by kernel_rfl
theorem connectCuts_k26 : (Rows.connectCutsRow.lifted == Try.prog.liftsFinal) = true := by rw [prog_final]; rfl
theorem connectCuts_k27 : (Try.prog.make == some Rows.connectCutsRow.make) = true := by rw [prog_make]; rfl
theorem connectCuts_k28 : (Rows.connectCutsRow.kinds == (if Rows.connectCutsRow.domain.isEmpty then [] else Try.f5.params.toList.map fun t => match Try.prog.underlying t with | some (.int k) => some k | _ => none)) = true := by kernel_rfl
theorem connectCuts_k29 : (Rows.connectCutsRow.pinned == Rows.connectCutsRow.pinnedBy) = true := by kernel_rfl
theorem connectCuts_k30 : (Rows.connectCutsRow.veiled == (Try.f5.params.toList ++ Rows.connectCutsSpec.plain.varTypes Try.prog ++ Try.f5.resultTypes.toList).any (Try.prog.veiledRec ·)) = true := by kernel_rfl
theorem connectCuts_k31 : (Rows.connectCutsRow.veiledFits Try.prog Try.f5.params.toList (Try.f5.params.toList ++ Rows.connectCutsSpec.plain.varTypes Try.prog ++ Try.f5.resultTypes.toList)) = true := by kernel_rfl
set_option maxRecDepth 100000 in
theorem connectCuts_closed : joinedFacts Try.prog 5 Try.f5 Rows.connectCutsSpec Rows.connectCutsRow = true := (and2 (and2 (and2 (and2 (and2 (and2 (and2 (and2 (and2 (and2 (and2 (and2 (and2 (and2 (and2 (and2 (and2 (and2 (and2 (and2 (and2 (and2 (and2 (and2 (and2 (and2 (and2 (and2 (and2 (and2 (and2 connectCuts_k0 laidOut) prog_maps) connectCuts_k3) connectCuts_k4) connectCuts_k5) prog_stops) connectCuts_k7) prog_knobs) connectCuts_k9) connectCuts_k10) connectCuts_k11) connectCuts_k12) connectCuts_k13) connectCuts_k14) connectCuts_k15) connectCuts_k16) connectCuts_k17) connectCuts_k18) connectCuts_k19) connectCuts_k20) connectCuts_k21) connectCuts_k22) connectCuts_k23) prog_heard) prog_enter) connectCuts_k26) connectCuts_k27) connectCuts_k28) connectCuts_k29) connectCuts_k30) connectCuts_k31)
theorem connectCuts_named : Try.prog.funcNamed Rows.connectCutsRow.func = some 5 := by kernel_rfl
theorem connectCuts_inst : Try.f5.isInstance Try.prog Rows.connectCutsRow.origin Rows.connectCutsRow.targs := of_decide_eq_true (by kernel_rfl)
theorem connectCuts_wrap : Try.f5.isWrapper Try.prog Rows.connectCutsRow.wrapper Rows.connectCutsRow.mainSum := by unfold Func.isWrapper; first | (rw [if_pos (by decide +kernel)]; kernel_rfl) | (rw [if_neg (by decide +kernel)]; exact ⟨rfl, rfl⟩)
set_option maxRecDepth 100000 in
theorem connectCuts_lifted (os : Os) (started : os.Started) (H : Type) (enc : TypeId × Value → H) :
    ReturnsInHanded {} Try.checked os 5 .any (Rows.connectCutsSpec.pre6 enc Try.prog Try.f5 Rows.connectCutsRow.domain false) (Rows.connectCutsSpec.post enc Try.prog Try.f5 false true false false) := by
  refine returnsInHanded_of_change (C := Try.checked) own started (by kernel_rfl) Try.func5
    (ChangeSpec.witness6 (enc := enc) (C := Try.checked) false ⟨#[], #[.agg #[.slice none 0 0, .slice none 0 0, .int .i64 0]], []⟩ 8 (by kernel_rfl) (by kernel_rfl) (by kernel_rfl) (by kernel_rfl)) ?_
  intro W base args ds gs before hval0 hW hcnd _
  have hval : ∀ (j : Nat) t v, Try.f5.params[j]? = some t → args[j]? = some v → Value.okWide Try.prog W .any base t v := hval0
  have hW' := hW
  obtain ⟨p, q, hA0, hV, rfl, hfz, hnd⟩ := hW
  have hA : DataW.TrodAll enc Try.prog W 0 (fun _ => true) true Try.f5.params.toList args.toList ds p := hA0
  rw [Try.params5] at hA hval
  obtain ⟨v0, vs0, d0, ds0, p0, q0, hargs, rfl, rfl, h0, r0⟩ := trodAll_cons hA
  obtain ⟨rfl, rfl, rfl⟩ := trodAll_nil r0
  obtain rfl : args = #[v0] := by cases args; simp_all
  obtain ⟨rfl, rfl⟩ := trodVars_none hV
  obtain ⟨S0, M0, L0, aS0, aM0, cS0, cM0, rfl, hS0, hM0, lS0, lM0, wL0⟩ := open_diag (hval 0 24 v0 rfl rfl) h0
  have k0 := h0
  have lt0 : ∀ x ∈ p0, x.block < W.heap.size := by obtain ⟨m, hm⟩ := k0; exact DataW.trod_lt m _ _ _ hm
  clear hA0 hval0
  refine (lcut_any S0 M0 L0 aS0 aM0 cS0 cM0 W lS0 lM0 wL0 hS0 hM0).mono fun e W' ⟨he, bel⟩ => ?_
  subst he
  exact ⟨_, rfl, _, _, _, [], _, [], hW', trodAll_mk1 (shut_bool Try.underlying4 _), (trodAll_cons_mk (Below.trod laidOut (by kernel_rfl) (of_decide_eq_true (by kernel_rfl)) k0 bel lt0) trodAll_mk0), rfl, bel.frame _, fun h => by cases h⟩
theorem connectCuts_holds : Rows.ConnectCutsSaid :=
  OpenClaim.holds_of_wide 5 Try.f5 rfl rfl rfl rfl rfl rfl rfl ⟨rfl, rfl, rfl, rfl, rfl⟩ rfl rfl rfl rfl rfl connectCuts_named Try.func5 connectCuts_closed connectCuts_inst connectCuts_wrap
    (fun os started H enc _ => connectCuts_lifted os started H enc)
#print axioms connectCuts_holds
end Go.Proofs.Ytmjoijfafachhaa
