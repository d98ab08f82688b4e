/- ConnectNugatory: Nugatory, Reduced, Alternating, and Cuts agree with the specification: the law returns true for every input. -/
import Derived.Test.YtmjoijfafachhaaFrame0
import Derived.Test.YtmjoijfafachhaaLNug
namespace Go.Proofs.Ytmjoijfafachhaa
open Go Go.RowKit Go.ChangeShapes Go.WideShapes Go.ChangeAt Go.Joins
theorem connectNugatory_k0 : (Rows.connectNugatoryRow.wf (OpenSpec.ofChange Rows.connectNugatorySpec)) = true := by kernel_rfl
theorem connectNugatory_k3 : (Try.f8.params.all (Try.prog.readableRec ·)) = true := by kernel_rfl
theorem connectNugatory_k4 : (namedTie Try.prog Rows.connectNugatoryRow.named Rows.connectNugatorySpec.vars) = true := by kernel_rfl
theorem connectNugatory_k5 : (Rows.connectNugatoryRow.stops == []) = true := by kernel_rfl
theorem connectNugatory_k7 : (Rows.connectNugatoryRow.knobs == []) = true := by kernel_rfl
theorem connectNugatory_k9 : (Rows.connectNugatoryRow.inPlace == Try.prog.inPlace 8) = true := by kernel_rfl
theorem connectNugatory_k10 : (Rows.connectNugatoryRow.unfollowed == Try.prog.unfollowed 8) = true := by kernel_rfl
theorem connectNugatory_k11 : (Rows.connectNugatoryRow.recurses == Try.prog.recurses 8) = true := by kernel_rfl
theorem connectNugatory_k12 : (Rows.connectNugatoryRow.named == Try.prog.varsNamed 8) = true := by kernel_rfl
theorem connectNugatory_k13 : (Rows.connectNugatoryRow.maps == (Try.f8.params.toList ++ Rows.connectNugatorySpec.plain.varTypes Try.prog).any (Try.prog.mapsRec ·)) = true := by kernel_rfl
theorem connectNugatory_k14 : (Rows.connectNugatoryRow.ifaces == (Try.f8.params.toList ++ Rows.connectNugatorySpec.plain.varTypes Try.prog).any (Try.prog.ifacesRec ·)) = true := by kernel_rfl
theorem connectNugatory_k15 : (Rows.connectNugatoryRow.mapsOut == Try.prog.mapsAmong Try.f8.resultTypes.toList) = true := by kernel_rfl
theorem connectNugatory_k16 : (Rows.connectNugatoryRow.loops == (Try.f8.params.toList ++ Rows.connectNugatorySpec.plain.varTypes Try.prog).any (Try.prog.loopsFrom ·)) = true := by kernel_rfl
theorem connectNugatory_k17 : (Rows.connectNugatoryRow.wideKeys == (Try.f8.params.toList ++ Rows.connectNugatorySpec.plain.varTypes Try.prog ++ Try.f8.resultTypes.toList).any (Try.prog.wideKeysFrom ·)) = true := by kernel_rfl
theorem connectNugatory_k18 : (Rows.connectNugatorySpec.vars.all (Try.prog.varReadable ·)) = true := by kernel_rfl
theorem connectNugatory_k19 : (Try.f8.resultTypes.all (fun t => Try.prog.readableRec t && decide (t < Try.prog.types.size))) = true := by kernel_rfl
theorem connectNugatory_k20 : (Rows.connectNugatoryRow.ifacesOut == Try.f8.resultTypes.toList.any (Try.prog.ifacesRec ·)) = true := by kernel_rfl
theorem connectNugatory_k21 : (Rows.connectNugatoryRow.loopsOut == Try.f8.resultTypes.toList.any (Try.prog.loopsFrom ·)) = true := by kernel_rfl
theorem connectNugatory_k22 : (Rows.connectNugatoryRow.plainKeys == Try.prog.plainKeys) = true := by rw [prog_keys]; rfl
theorem connectNugatory_k23 : (Rows.connectNugatoryRow.shortTexts.isNone) = true := by kernel_rfl
theorem connectNugatory_k26 : (Rows.connectNugatoryRow.lifted == Try.prog.liftsFinal) = true := by rw [prog_final]; rfl
theorem connectNugatory_k27 : (Try.prog.make == some Rows.connectNugatoryRow.make) = true := by rw [prog_make]; rfl
theorem connectNugatory_k28 : (Rows.connectNugatoryRow.kinds == (if Rows.connectNugatoryRow.domain.isEmpty then [] else Try.f8.params.toList.map fun t => match Try.prog.underlying t with | some (.int k) => some k | _ => none)) = true := by kernel_rfl
theorem connectNugatory_k29 : (Rows.connectNugatoryRow.pinned == Rows.connectNugatoryRow.pinnedBy) = true := by kernel_rfl
theorem connectNugatory_k30 : (Rows.connectNugatoryRow.veiled == (Try.f8.params.toList ++ Rows.connectNugatorySpec.plain.varTypes Try.prog ++ Try.f8.resultTypes.toList).any (Try.prog.veiledRec ·)) = true := by kernel_rfl
theorem connectNugatory_k31 : (Rows.connectNugatoryRow.veiledFits Try.prog Try.f8.params.toList (Try.f8.params.toList ++ Rows.connectNugatorySpec.plain.varTypes Try.prog ++ Try.f8.resultTypes.toList)) = true := by kernel_rfl
set_option maxRecDepth 100000 in
theorem connectNugatory_closed : joinedFacts Try.prog 8 Try.f8 Rows.connectNugatorySpec Rows.connectNugatoryRow = true := (and2 (and2 (and2 (and2 (and2 (and2 (and2 (and2 (and2 (and2 (and2 (and2 (and2 (and2 (and2 (and2 (and2 (and2 (and2 (and2 (and2 (and2 (and2 (and2 (and2 (and2 (and2 (and2 (and2 (and2 (and2 connectNugatory_k0 laidOut) prog_maps) connectNugatory_k3) connectNugatory_k4) connectNugatory_k5) prog_stops) connectNugatory_k7) prog_knobs) connectNugatory_k9) connectNugatory_k10) connectNugatory_k11) connectNugatory_k12) connectNugatory_k13) connectNugatory_k14) connectNugatory_k15) connectNugatory_k16) connectNugatory_k17) connectNugatory_k18) connectNugatory_k19) connectNugatory_k20) connectNugatory_k21) connectNugatory_k22) connectNugatory_k23) prog_heard) prog_enter) connectNugatory_k26) connectNugatory_k27) connectNugatory_k28) connectNugatory_k29) connectNugatory_k30) connectNugatory_k31)
theorem connectNugatory_named : Try.prog.funcNamed Rows.connectNugatoryRow.func = some 8 := by kernel_rfl
theorem connectNugatory_inst : Try.f8.isInstance Try.prog Rows.connectNugatoryRow.origin Rows.connectNugatoryRow.targs := of_decide_eq_true (by kernel_rfl)
theorem connectNugatory_wrap : Try.f8.isWrapper Try.prog Rows.connectNugatoryRow.wrapper Rows.connectNugatoryRow.mainSum := by unfold Func.isWrapper; first | (rw [if_pos (by decide +kernel)]; kernel_rfl) | (rw [if_neg (by decide +kernel)]; exact ⟨rfl, rfl⟩)
set_option maxRecDepth 100000 in
theorem connectNugatory_lifted (os : Os) (started : os.Started) (H : Type) (enc : TypeId × Value → H) :
    ReturnsInHanded {} Try.checked os 8 .any (Rows.connectNugatorySpec.pre6 enc Try.prog Try.f8 Rows.connectNugatoryRow.domain false) (Rows.connectNugatorySpec.post enc Try.prog Try.f8 false true false false) := by
  refine returnsInHanded_of_change (C := Try.checked) own started (by kernel_rfl) Try.func8
    (ChangeSpec.witness6 (enc := enc) (C := Try.checked) false ⟨#[], #[.agg #[.slice none 0 0, .slice none 0 0, .int .i64 0]], []⟩ 8 (by kernel_rfl) (by kernel_rfl) (by kernel_rfl) (by kernel_rfl)) ?_
  intro W base args ds gs before hval0 hW hcnd _
  have hval : ∀ (j : Nat) t v, Try.f8.params[j]? = some t → args[j]? = some v → Value.okWide Try.prog W .any base t v := hval0
  have hW' := hW
  obtain ⟨p, q, hA0, hV, rfl, hfz, hnd⟩ := hW
  have hA : DataW.TrodAll enc Try.prog W 0 (fun _ => true) true Try.f8.params.toList args.toList ds p := hA0
  rw [Try.params8] at hA hval
  obtain ⟨v0, vs0, d0, ds0, p0, q0, hargs, rfl, rfl, h0, r0⟩ := trodAll_cons hA
  obtain ⟨rfl, rfl, rfl⟩ := trodAll_nil r0
  obtain rfl : args = #[v0] := by cases args; simp_all
  obtain ⟨rfl, rfl⟩ := trodVars_none hV
  obtain ⟨S0, M0, L0, aS0, aM0, cS0, cM0, rfl, hS0, hM0, lS0, lM0, wL0⟩ := open_diag (hval 0 24 v0 rfl rfl) h0
  have k0 := h0
  have lt0 : ∀ x ∈ p0, x.block < W.heap.size := by obtain ⟨m, hm⟩ := k0; exact DataW.trod_lt m _ _ _ hm
  clear hA0 hval0
  refine (lnug_any S0 M0 L0 aS0 aM0 cS0 cM0 W lS0 lM0 wL0 hS0 hM0).mono fun e W' ⟨he, bel⟩ => ?_
  subst he
  exact ⟨_, rfl, _, _, _, [], _, [], hW', trodAll_mk1 (shut_bool Try.underlying4 _), (trodAll_cons_mk (Below.trod laidOut (by kernel_rfl) (of_decide_eq_true (by kernel_rfl)) k0 bel lt0) trodAll_mk0), rfl, bel.frame _, fun h => by cases h⟩
theorem connectNugatory_holds : Rows.ConnectNugatorySaid :=
  OpenClaim.holds_of_wide 8 Try.f8 rfl rfl rfl rfl rfl rfl rfl ⟨rfl, rfl, rfl, rfl, rfl⟩ rfl rfl rfl rfl rfl connectNugatory_named Try.func8 connectNugatory_closed connectNugatory_inst connectNugatory_wrap
    (fun os started H enc _ => connectNugatory_lifted os started H enc)
#print axioms connectNugatory_holds
end Go.Proofs.Ytmjoijfafachhaa
