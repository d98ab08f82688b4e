/- ConnectUndoes: Factor undoes Sum: the law returns true for every input. -/
import Derived.Test.YtmjoijfafachhaaFrame0
import Derived.Test.YtmjoijfafachhaaLUnd
namespace Go.Proofs.Ytmjoijfafachhaa
open Go Go.RowKit Go.ChangeShapes Go.WideShapes Go.ChangeAt Go.Joins
theorem connectUndoes_k0 : (Rows.connectUndoesRow.wf (OpenSpec.ofChange Rows.connectUndoesSpec)) = true := by kernel_rfl
theorem connectUndoes_k3 : (Try.f6.params.all (Try.prog.readableRec ·)) = true := by kernel_rfl
theorem connectUndoes_k4 : (namedTie Try.prog Rows.connectUndoesRow.named Rows.connectUndoesSpec.vars) = true := by kernel_rfl
theorem connectUndoes_k5 : (Rows.connectUndoesRow.stops == []) = true := by kernel_rfl
theorem connectUndoes_k7 : (Rows.connectUndoesRow.knobs == []) = true := by kernel_rfl
theorem connectUndoes_k9 : (Rows.connectUndoesRow.inPlace == Try.prog.inPlace 6) = true := by kernel_rfl
theorem connectUndoes_k10 : (Rows.connectUndoesRow.unfollowed == Try.prog.unfollowed 6) = true := by kernel_rfl
theorem connectUndoes_k11 : (Rows.connectUndoesRow.recurses == Try.prog.recurses 6) = true := by kernel_rfl
theorem connectUndoes_k12 : (Rows.connectUndoesRow.named == Try.prog.varsNamed 6) = true := by kernel_rfl
theorem connectUndoes_k13 : (Rows.connectUndoesRow.maps == (Try.f6.params.toList ++ Rows.connectUndoesSpec.plain.varTypes Try.prog).any (Try.prog.mapsRec ·)) = true := by kernel_rfl
theorem connectUndoes_k14 : (Rows.connectUndoesRow.ifaces == (Try.f6.params.toList ++ Rows.connectUndoesSpec.plain.varTypes Try.prog).any (Try.prog.ifacesRec ·)) = true := by kernel_rfl
theorem connectUndoes_k15 : (Rows.connectUndoesRow.mapsOut == Try.prog.mapsAmong Try.f6.resultTypes.toList) = true := by kernel_rfl
theorem connectUndoes_k16 : (Rows.connectUndoesRow.loops == (Try.f6.params.toList ++ Rows.connectUndoesSpec.plain.varTypes Try.prog).any (Try.prog.loopsFrom ·)) = true := by kernel_rfl
theorem connectUndoes_k17 : (Rows.connectUndoesRow.wideKeys == (Try.f6.params.toList ++ Rows.connectUndoesSpec.plain.varTypes Try.prog ++ Try.f6.resultTypes.toList).any (Try.prog.wideKeysFrom ·)) = true := by kernel_rfl
theorem connectUndoes_k18 : (Rows.connectUndoesSpec.vars.all (Try.prog.varReadable ·)) = true := by kernel_rfl
theorem connectUndoes_k19 : (Try.f6.resultTypes.all (fun t => Try.prog.readableRec t && decide (t < Try.prog.types.size))) = true := by kernel_rfl
theorem connectUndoes_k20 : (Rows.connectUndoesRow.ifacesOut == Try.f6.resultTypes.toList.any (Try.prog.ifacesRec ·)) = true := by kernel_rfl
theorem connectUndoes_k21 : (Rows.connectUndoesRow.loopsOut == Try.f6.resultTypes.toList.any (Try.prog.loopsFrom ·)) = true := by kernel_rfl
theorem connectUndoes_k22 : (Rows.connectUndoesRow.plainKeys == Try.prog.plainKeys) = true := by rw [prog_keys]; rfl
theorem connectUndoes_k23 : (Rows.connectUndoesRow.shortTexts.isNone) = true := by kernel_rfl
theorem connectUndoes_k26 : (Rows.connectUndoesRow.lifted == Try.prog.liftsFinal) = true := by rw [prog_final]; rfl
theorem connectUndoes_k27 : (Try.prog.make == some Rows.connectUndoesRow.make) = true := by rw [prog_make]; rfl
theorem connectUndoes_k28 : (Rows.connectUndoesRow.kinds == (if Rows.connectUndoesRow.domain.isEmpty then [] else Try.f6.params.toList.map fun t => match Try.prog.underlying t with | some (.int k) => some k | _ => none)) = true := by kernel_rfl
theorem connectUndoes_k29 : (Rows.connectUndoesRow.pinned == Rows.connectUndoesRow.pinnedBy) = true := by kernel_rfl
theorem connectUndoes_k30 : (Rows.connectUndoesRow.veiled == (Try.f6.params.toList ++ Rows.connectUndoesSpec.plain.varTypes Try.prog ++ Try.f6.resultTypes.toList).any (Try.prog.veiledRec ·)) = true := by kernel_rfl
theorem connectUndoes_k31 : (Rows.connectUndoesRow.veiledFits Try.prog Try.f6.params.toList (Try.f6.params.toList ++ Rows.connectUndoesSpec.plain.varTypes Try.prog ++ Try.f6.resultTypes.toList)) = true := by kernel_rfl
set_option maxRecDepth 100000 in
theorem connectUndoes_closed : joinedFacts Try.prog 6 Try.f6 Rows.connectUndoesSpec Rows.connectUndoesRow = true := (and2 (and2 (and2 (and2 (and2 (and2 (and2 (and2 (and2 (and2 (and2 (and2 (and2 (and2 (and2 (and2 (and2 (and2 (and2 (and2 (and2 (and2 (and2 (and2 (and2 (and2 (and2 (and2 (and2 (and2 (and2 connectUndoes_k0 laidOut) prog_maps) connectUndoes_k3) connectUndoes_k4) connectUndoes_k5) prog_stops) connectUndoes_k7) prog_knobs) connectUndoes_k9) connectUndoes_k10) connectUndoes_k11) connectUndoes_k12) connectUndoes_k13) connectUndoes_k14) connectUndoes_k15) connectUndoes_k16) connectUndoes_k17) connectUndoes_k18) connectUndoes_k19) connectUndoes_k20) connectUndoes_k21) connectUndoes_k22) connectUndoes_k23) prog_heard) prog_enter) connectUndoes_k26) connectUndoes_k27) connectUndoes_k28) connectUndoes_k29) connectUndoes_k30) connectUndoes_k31)
theorem connectUndoes_named : Try.prog.funcNamed Rows.connectUndoesRow.func = some 6 := by kernel_rfl
theorem connectUndoes_inst : Try.f6.isInstance Try.prog Rows.connectUndoesRow.origin Rows.connectUndoesRow.targs := of_decide_eq_true (by kernel_rfl)
theorem connectUndoes_wrap : Try.f6.isWrapper Try.prog Rows.connectUndoesRow.wrapper Rows.connectUndoesRow.mainSum := by unfold Func.isWrapper; first | (rw [if_pos (by decide +kernel)]; kernel_rfl) | (rw [if_neg (by decide +kernel)]; exact ⟨rfl, rfl⟩)
set_option maxRecDepth 100000 in
theorem connectUndoes_lifted (os : Os) (started : os.Started) (H : Type) (enc : TypeId × Value → H) :
    ReturnsInHanded {} Try.checked os 6 .any (Rows.connectUndoesSpec.pre6 enc Try.prog Try.f6 Rows.connectUndoesRow.domain false) (Rows.connectUndoesSpec.post enc Try.prog Try.f6 false true false false) := by
  refine returnsInHanded_of_change (C := Try.checked) own started (by kernel_rfl) Try.func6
    (ChangeSpec.witness6 (enc := enc) (C := Try.checked) false ⟨#[], #[.agg #[.slice none 0 0, .slice none 0 0, .int .i64 0], .int .i64 0, .agg #[.slice none 0 0, .slice none 0 0, .int .i64 0], .int .i64 0], []⟩ 8 (by kernel_rfl) (by kernel_rfl) (by kernel_rfl) (by kernel_rfl)) ?_
  intro W base args ds gs before hval0 hW hcnd _
  have hval : ∀ (j : Nat) t v, Try.f6.params[j]? = some t → args[j]? = some v → Value.okWide Try.prog W .any base t v := hval0
  have hW' := hW
  obtain ⟨p, q, hA0, hV, rfl, hfz, hnd⟩ := hW
  have hA : DataW.TrodAll enc Try.prog W 0 (fun _ => true) true Try.f6.params.toList args.toList ds p := hA0
  rw [Try.params6] at hA hval
  obtain ⟨v0, vs0, d0, ds0, p0, q0, hargs, rfl, rfl, h0, r0⟩ := trodAll_cons hA
  obtain ⟨v1, vs1, d1, ds1, p1, q1, rfl, rfl, rfl, h1, r1⟩ := trodAll_cons r0
  obtain ⟨v2, vs2, d2, ds2, p2, q2, rfl, rfl, rfl, h2, r2⟩ := trodAll_cons r1
  obtain ⟨v3, vs3, d3, ds3, p3, q3, rfl, rfl, rfl, h3, r3⟩ := trodAll_cons r2
  obtain ⟨rfl, rfl, rfl⟩ := trodAll_nil r3
  obtain rfl : args = #[v0, v1, v2, v3] := by cases args; simp_all
  obtain ⟨rfl, rfl⟩ := trodVars_none hV
  obtain ⟨S0, M0, L0, aS0, aM0, cS0, cM0, rfl, hS0, hM0, lS0, lM0, wL0⟩ := open_diag (hval 0 24 v0 rfl rfl) h0
  have k0 := h0
  have lt0 : ∀ x ∈ p0, x.block < W.heap.size := by obtain ⟨m, hm⟩ := k0; exact DataW.trod_lt m _ _ _ hm
  obtain ⟨i1, rfl, rfl, rfl, w1⟩ := open_int Try.underlying3 (hval 1 3 v1 rfl rfl) h1
  obtain ⟨S2, M2, L2, aS2, aM2, cS2, cM2, rfl, hS2, hM2, lS2, lM2, wL2⟩ := open_diag (hval 2 24 v2 rfl rfl) h2
  have k2 := h2
  have lt2 : ∀ x ∈ p2, x.block < W.heap.size := by obtain ⟨m, hm⟩ := k2; exact DataW.trod_lt m _ _ _ hm
  obtain ⟨i3, rfl, rfl, rfl, w3⟩ := open_int Try.underlying3 (hval 3 3 v3 rfl rfl) h3
  clear hA0 hval0
  refine (lund_any S0 M0 L0 aS0 aM0 cS0 cM0 i1 S2 M2 L2 aS2 aM2 cS2 cM2 i3 W lS0 lM0 wL0 hS0 hM0 w1 lS2 lM2 wL2 hS2 hM2 w3).mono fun e W' ⟨he, bel⟩ => ?_
  subst he
  exact ⟨_, rfl, _, _, _, [], _, [], hW', trodAll_mk1 (shut_bool Try.underlying4 _), (trodAll_cons_mk (Below.trod laidOut (by kernel_rfl) (of_decide_eq_true (by kernel_rfl)) k0 bel lt0) (trodAll_cons_mk (shut_int Try.underlying3 w1) (trodAll_cons_mk (Below.trod laidOut (by kernel_rfl) (of_decide_eq_true (by kernel_rfl)) k2 bel lt2) (trodAll_cons_mk (shut_int Try.underlying3 w3) trodAll_mk0)))), rfl, bel.frame _, fun h => by cases h⟩
theorem connectUndoes_holds : Rows.ConnectUndoesSaid :=
  OpenClaim.holds_of_wide 6 Try.f6 rfl rfl rfl rfl rfl rfl rfl ⟨rfl, rfl, rfl, rfl, rfl⟩ rfl rfl rfl rfl rfl connectUndoes_named Try.func6 connectUndoes_closed connectUndoes_inst connectUndoes_wrap
    (fun os started H enc _ => connectUndoes_lifted os started H enc)
#print axioms connectUndoes_holds
end Go.Proofs.Ytmjoijfafachhaa
