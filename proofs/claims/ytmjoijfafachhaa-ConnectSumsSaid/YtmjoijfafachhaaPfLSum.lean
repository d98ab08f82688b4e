/- ConnectSums: Sum returns the specified diagram or error; it is valid, and has one component less than both together: the law returns true for every input. -/
import Derived.Test.YtmjoijfafachhaaFrame0
import Derived.Test.YtmjoijfafachhaaLSum
namespace Go.Proofs.Ytmjoijfafachhaa
open Go Go.RowKit Go.ChangeShapes Go.WideShapes Go.ChangeAt Go.Joins
theorem connectSums_k0 : (Rows.connectSumsRow.wf (OpenSpec.ofChange Rows.connectSumsSpec)) = true := by kernel_rfl
theorem connectSums_k3 : (Try.f9.params.all (Try.prog.readableRec ·)) = true := by kernel_rfl
theorem connectSums_k4 : (namedTie Try.prog Rows.connectSumsRow.named Rows.connectSumsSpec.vars) = true := by kernel_rfl
theorem connectSums_k5 : (Rows.connectSumsRow.stops == []) = true := by kernel_rfl
theorem connectSums_k7 : (Rows.connectSumsRow.knobs == []) = true := by kernel_rfl
theorem connectSums_k9 : (Rows.connectSumsRow.inPlace == Try.prog.inPlace 9) = true := by kernel_rfl
theorem connectSums_k10 : (Rows.connectSumsRow.unfollowed == Try.prog.unfollowed 9) = true := by kernel_rfl
theorem connectSums_k11 : (Rows.connectSumsRow.recurses == Try.prog.recurses 9) = true := by kernel_rfl
theorem connectSums_k12 : (Rows.connectSumsRow.named == Try.prog.varsNamed 9) = true := by kernel_rfl
theorem connectSums_k13 : (Rows.connectSumsRow.maps == (Try.f9.params.toList ++ Rows.connectSumsSpec.plain.varTypes Try.prog).any (Try.prog.mapsRec ·)) = true := by kernel_rfl
theorem connectSums_k14 : (Rows.connectSumsRow.ifaces == (Try.f9.params.toList ++ Rows.connectSumsSpec.plain.varTypes Try.prog).any (Try.prog.ifacesRec ·)) = true := by kernel_rfl
theorem connectSums_k15 : (Rows.connectSumsRow.mapsOut == Try.prog.mapsAmong Try.f9.resultTypes.toList) = true := by kernel_rfl
theorem connectSums_k16 : (Rows.connectSumsRow.loops == (Try.f9.params.toList ++ Rows.connectSumsSpec.plain.varTypes Try.prog).any (Try.prog.loopsFrom ·)) = true := by kernel_rfl
theorem connectSums_k17 : (Rows.connectSumsRow.wideKeys == (Try.f9.params.toList ++ Rows.connectSumsSpec.plain.varTypes Try.prog ++ Try.f9.resultTypes.toList).any (Try.prog.wideKeysFrom ·)) = true := by kernel_rfl
theorem connectSums_k18 : (Rows.connectSumsSpec.vars.all (Try.prog.varReadable ·)) = true := by kernel_rfl
theorem connectSums_k19 : (Try.f9.resultTypes.all (fun t => Try.prog.readableRec t && decide (t < Try.prog.types.size))) = true := by kernel_rfl
theorem connectSums_k20 : (Rows.connectSumsRow.ifacesOut == Try.f9.resultTypes.toList.any (Try.prog.ifacesRec ·)) = true := by kernel_rfl
theorem connectSums_k21 : (Rows.connectSumsRow.loopsOut == Try.f9.resultTypes.toList.any (Try.prog.loopsFrom ·)) = true := by kernel_rfl
theorem connectSums_k22 : (Rows.connectSumsRow.plainKeys == Try.prog.plainKeys) = true := by rw [prog_keys]; rfl
theorem connectSums_k23 : (Rows.connectSumsRow.shortTexts.isNone) = true := by kernel_rfl
theorem connectSums_k26 : (Rows.connectSumsRow.lifted == Try.prog.liftsFinal) = true := by rw [prog_final]; rfl
theorem connectSums_k27 : (Try.prog.make == some Rows.connectSumsRow.make) = true := by rw [prog_make]; rfl
theorem connectSums_k28 : (Rows.connectSumsRow.kinds == (if Rows.connectSumsRow.domain.isEmpty then [] else Try.f9.params.toList.map fun t => match Try.prog.underlying t with | some (.int k) => some k | _ => none)) = true := by kernel_rfl
theorem connectSums_k29 : (Rows.connectSumsRow.pinned == Rows.connectSumsRow.pinnedBy) = true := by kernel_rfl
theorem connectSums_k30 : (Rows.connectSumsRow.veiled == (Try.f9.params.toList ++ Rows.connectSumsSpec.plain.varTypes Try.prog ++ Try.f9.resultTypes.toList).any (Try.prog.veiledRec ·)) = true := by kernel_rfl
theorem connectSums_k31 : (Rows.connectSumsRow.veiledFits Try.prog Try.f9.params.toList (Try.f9.params.toList ++ Rows.connectSumsSpec.plain.varTypes Try.prog ++ Try.f9.resultTypes.toList)) = true := by kernel_rfl
set_option maxRecDepth 100000 in
theorem connectSums_closed : joinedFacts Try.prog 9 Try.f9 Rows.connectSumsSpec Rows.connectSumsRow = true := (and2 (and2 (and2 (and2 (and2 (and2 (and2 (and2 (and2 (and2 (and2 (and2 (and2 (and2 (and2 (and2 (and2 (and2 (and2 (and2 (and2 (and2 (and2 (and2 (and2 (and2 (and2 (and2 (and2 (and2 (and2 connectSums_k0 laidOut) prog_maps) connectSums_k3) connectSums_k4) connectSums_k5) prog_stops) connectSums_k7) prog_knobs) connectSums_k9) connectSums_k10) connectSums_k11) connectSums_k12) connectSums_k13) connectSums_k14) connectSums_k15) connectSums_k16) connectSums_k17) connectSums_k18) connectSums_k19) connectSums_k20) connectSums_k21) connectSums_k22) connectSums_k23) prog_heard) prog_enter) connectSums_k26) connectSums_k27) connectSums_k28) connectSums_k29) connectSums_k30) connectSums_k31)
theorem connectSums_named : Try.prog.funcNamed Rows.connectSumsRow.func = some 9 := by kernel_rfl
theorem connectSums_inst : Try.f9.isInstance Try.prog Rows.connectSumsRow.origin Rows.connectSumsRow.targs := of_decide_eq_true (by kernel_rfl)
theorem connectSums_wrap : Try.f9.isWrapper Try.prog Rows.connectSumsRow.wrapper Rows.connectSumsRow.mainSum := by unfold Func.isWrapper; first | (rw [if_pos (by decide +kernel)]; kernel_rfl) | (rw [if_neg (by decide +kernel)]; exact ⟨rfl, rfl⟩)
set_option maxRecDepth 100000 in
theorem connectSums_lifted (os : Os) (started : os.Started) (H : Type) (enc : TypeId × Value → H) :
    ReturnsInHanded {} Try.checked os 9 .any (Rows.connectSumsSpec.pre6 enc Try.prog Try.f9 Rows.connectSumsRow.domain false) (Rows.connectSumsSpec.post enc Try.prog Try.f9 false true false false) := by
  refine returnsInHanded_of_change (C := Try.checked) own started (by kernel_rfl) Try.func9
    (ChangeSpec.witness6 (enc := enc) (C := Try.checked) false ⟨#[], #[.agg #[.slice none 0 0, .slice none 0 0, .int .i64 0], .int .i64 0, .agg #[.slice none 0 0, .slice none 0 0, .int .i64 0], .int .i64 0], []⟩ 8 (by kernel_rfl) (by kernel_rfl) (by kernel_rfl) (by kernel_rfl)) ?_
  intro W base args ds gs before hval0 hW hcnd _
  have hval : ∀ (j : Nat) t v, Try.f9.params[j]? = some t → args[j]? = some v → Value.okWide Try.prog W .any base t v := hval0
  have hW' := hW
  obtain ⟨p, q, hA0, hV, rfl, hfz, hnd⟩ := hW
  have hA : DataW.TrodAll enc Try.prog W 0 (fun _ => true) true Try.f9.params.toList args.toList ds p := hA0
  rw [Try.params9] at hA hval
  obtain ⟨v0, vs0, d0, ds0, p0, q0, hargs, rfl, rfl, h0, r0⟩ := trodAll_cons hA
  obtain ⟨v1, vs1, d1, ds1, p1, q1, rfl, rfl, rfl, h1, r1⟩ := trodAll_cons r0
  obtain ⟨v2, vs2, d2, ds2, p2, q2, rfl, rfl, rfl, h2, r2⟩ := trodAll_cons r1
  obtain ⟨v3, vs3, d3, ds3, p3, q3, rfl, rfl, rfl, h3, r3⟩ := trodAll_cons r2
  obtain ⟨rfl, rfl, rfl⟩ := trodAll_nil r3
  obtain rfl : args = #[v0, v1, v2, v3] := by cases args; simp_all
  obtain ⟨rfl, rfl⟩ := trodVars_none hV
  obtain ⟨S0, M0, L0, aS0, aM0, cS0, cM0, rfl, hS0, hM0, lS0, lM0, wL0⟩ := open_diag (hval 0 24 v0 rfl rfl) h0
  have k0 := h0
  have lt0 : ∀ x ∈ p0, x.block < W.heap.size := by obtain ⟨m, hm⟩ := k0; exact DataW.trod_lt m _ _ _ hm
  obtain ⟨i1, rfl, rfl, rfl, w1⟩ := open_int Try.underlying3 (hval 1 3 v1 rfl rfl) h1
  obtain ⟨S2, M2, L2, aS2, aM2, cS2, cM2, rfl, hS2, hM2, lS2, lM2, wL2⟩ := open_diag (hval 2 24 v2 rfl rfl) h2
  have k2 := h2
  have lt2 : ∀ x ∈ p2, x.block < W.heap.size := by obtain ⟨m, hm⟩ := k2; exact DataW.trod_lt m _ _ _ hm
  obtain ⟨i3, rfl, rfl, rfl, w3⟩ := open_int Try.underlying3 (hval 3 3 v3 rfl rfl) h3
  clear hA0 hval0
  refine (lsum_any S0 M0 L0 aS0 aM0 cS0 cM0 i1 S2 M2 L2 aS2 aM2 cS2 cM2 i3 W lS0 lM0 wL0 hS0 hM0 w1 lS2 lM2 wL2 hS2 hM2 w3).mono fun e W' ⟨he, bel⟩ => ?_
  subst he
  exact ⟨_, rfl, _, _, _, [], _, [], hW', trodAll_mk1 (shut_bool Try.underlying4 _), (trodAll_cons_mk (Below.trod laidOut (by kernel_rfl) (of_decide_eq_true (by kernel_rfl)) k0 bel lt0) (trodAll_cons_mk (shut_int Try.underlying3 w1) (trodAll_cons_mk (Below.trod laidOut (by kernel_rfl) (of_decide_eq_true (by kernel_rfl)) k2 bel lt2) (trodAll_cons_mk (shut_int Try.underlying3 w3) trodAll_mk0)))), rfl, bel.frame _, fun h => by cases h⟩
theorem connectSums_holds : Rows.ConnectSumsSaid :=
  OpenClaim.holds_of_wide 9 Try.f9 rfl rfl rfl rfl rfl rfl rfl ⟨rfl, rfl, rfl, rfl, rfl⟩ rfl rfl rfl rfl rfl connectSums_named Try.func9 connectSums_closed connectSums_inst connectSums_wrap
    (fun os started H enc _ => connectSums_lifted os started H enc)
#print axioms connectSums_holds
end Go.Proofs.Ytmjoijfafachhaa
