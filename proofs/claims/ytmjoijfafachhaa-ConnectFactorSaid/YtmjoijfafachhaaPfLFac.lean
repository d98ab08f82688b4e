/- ConnectFactor: Factor returns the specified parts or error: the law returns true for every input. -/
import Derived.Test.YtmjoijfafachhaaFrame0
import Derived.Test.YtmjoijfafachhaaLFac
namespace Go.Proofs.Ytmjoijfafachhaa
open Go Go.RowKit Go.ChangeShapes Go.WideShapes Go.ChangeAt Go.Joins
theorem connectFactor_k0 : (Rows.connectFactorRow.wf (OpenSpec.ofChange Rows.connectFactorSpec)) = true := by kernel_rfl
theorem connectFactor_k3 : (Try.f4.params.all (Try.prog.readableRec ·)) = true := by kernel_rfl
theorem connectFactor_k4 : (namedTie Try.prog Rows.connectFactorRow.named Rows.connectFactorSpec.vars) = true := by kernel_rfl
theorem connectFactor_k5 : (Rows.connectFactorRow.stops == []) = true := by kernel_rfl
theorem connectFactor_k7 : (Rows.connectFactorRow.knobs == []) = true := by kernel_rfl
theorem connectFactor_k9 : (Rows.connectFactorRow.inPlace == Try.prog.inPlace 4) = true := by kernel_rfl
theorem connectFactor_k10 : (Rows.connectFactorRow.unfollowed == Try.prog.unfollowed 4) = true := by kernel_rfl
theorem connectFactor_k11 : (Rows.connectFactorRow.recurses == Try.prog.recurses 4) = true := by kernel_rfl
theorem connectFactor_k12 : (Rows.connectFactorRow.named == Try.prog.varsNamed 4) = true := by kernel_rfl
theorem connectFactor_k13 : (Rows.connectFactorRow.maps == (Try.f4.params.toList ++ Rows.connectFactorSpec.plain.varTypes Try.prog).any (Try.prog.mapsRec ·)) = true := by kernel_rfl
theorem connectFactor_k14 : (Rows.connectFactorRow.ifaces == (Try.f4.params.toList ++ Rows.connectFactorSpec.plain.varTypes Try.prog).any (Try.prog.ifacesRec ·)) = true := by kernel_rfl
theorem connectFactor_k15 : (Rows.connectFactorRow.mapsOut == Try.prog.mapsAmong Try.f4.resultTypes.toList) = true := by kernel_rfl
theorem connectFactor_k16 : (Rows.connectFactorRow.loops == (Try.f4.params.toList ++ Rows.connectFactorSpec.plain.varTypes Try.prog).any (Try.prog.loopsFrom ·)) = true := by kernel_rfl
theorem connectFactor_k17 : (Rows.connectFactorRow.wideKeys == (Try.f4.params.toList ++ Rows.connectFactorSpec.plain.varTypes Try.prog ++ Try.f4.resultTypes.toList).any (Try.prog.wideKeysFrom ·)) = true := by kernel_rfl
theorem connectFactor_k18 : (Rows.connectFactorSpec.vars.all (Try.prog.varReadable ·)) = true := by kernel_rfl
theorem connectFactor_k19 : (Try.f4.resultTypes.all (fun t => Try.prog.readableRec t && decide (t < Try.prog.types.size))) = true := by kernel_rfl
theorem connectFactor_k20 : (Rows.connectFactorRow.ifacesOut == Try.f4.resultTypes.toList.any (Try.prog.ifacesRec ·)) = true := by kernel_rfl
theorem connectFactor_k21 : (Rows.connectFactorRow.loopsOut == Try.f4.resultTypes.toList.any (Try.prog.loopsFrom ·)) = true := by kernel_rfl
theorem connectFactor_k22 : (Rows.connectFactorRow.plainKeys == Try.prog.plainKeys) = true := by rw [prog_keys]; rfl
theorem connectFactor_k23 : (Rows.connectFactorRow.shortTexts.isNone) = true := by kernel_rfl
theorem connectFactor_k26 : (Rows.connectFactorRow.lifted == Try.prog.liftsFinal) = true := by rw [prog_final]; rfl
theorem connectFactor_k27 : (Try.prog.make == some Rows.connectFactorRow.make) = true := by rw [prog_make]; rfl
theorem connectFactor_k28 : (Rows.connectFactorRow.kinds == (if Rows.connectFactorRow.domain.isEmpty then [] else Try.f4.params.toList.map fun t => match Try.prog.underlying t with | some (.int k) => some k | _ => none)) = true := by kernel_rfl
theorem connectFactor_k29 : (Rows.connectFactorRow.pinned == Rows.connectFactorRow.pinnedBy) = true := by kernel_rfl
theorem connectFactor_k30 : (Rows.connectFactorRow.veiled == (Try.f4.params.toList ++ Rows.connectFactorSpec.plain.varTypes Try.prog ++ Try.f4.resultTypes.toList).any (Try.prog.veiledRec ·)) = true := by kernel_rfl
theorem connectFactor_k31 : (Rows.connectFactorRow.veiledFits Try.prog Try.f4.params.toList (Try.f4.params.toList ++ Rows.connectFactorSpec.plain.varTypes Try.prog ++ Try.f4.resultTypes.toList)) = true := by kernel_rfl
set_option maxRecDepth 100000 in
theorem connectFactor_closed : joinedFacts Try.prog 4 Try.f4 Rows.connectFactorSpec Rows.connectFactorRow = true := (and2 (and2 (and2 (and2 (and2 (and2 (and2 (and2 (and2 (and2 (and2 (and2 (and2 (and2 (and2 (and2 (and2 (and2 (and2 (and2 (and2 (and2 (and2 (and2 (and2 (and2 (and2 (and2 (and2 (and2 (and2 connectFactor_k0 laidOut) prog_maps) connectFactor_k3) connectFactor_k4) connectFactor_k5) prog_stops) connectFactor_k7) prog_knobs) connectFactor_k9) connectFactor_k10) connectFactor_k11) connectFactor_k12) connectFactor_k13) connectFactor_k14) connectFactor_k15) connectFactor_k16) connectFactor_k17) connectFactor_k18) connectFactor_k19) connectFactor_k20) connectFactor_k21) connectFactor_k22) connectFactor_k23) prog_heard) prog_enter) connectFactor_k26) connectFactor_k27) connectFactor_k28) connectFactor_k29) connectFactor_k30) connectFactor_k31)
theorem connectFactor_named : Try.prog.funcNamed Rows.connectFactorRow.func = some 4 := by kernel_rfl
theorem connectFactor_inst : Try.f4.isInstance Try.prog Rows.connectFactorRow.origin Rows.connectFactorRow.targs := of_decide_eq_true (by kernel_rfl)
theorem connectFactor_wrap : Try.f4.isWrapper Try.prog Rows.connectFactorRow.wrapper Rows.connectFactorRow.mainSum := by unfold Func.isWrapper; first | (rw [if_pos (by decide +kernel)]; kernel_rfl) | (rw [if_neg (by decide +kernel)]; exact ⟨rfl, rfl⟩)
set_option maxRecDepth 100000 in
theorem connectFactor_lifted (os : Os) (started : os.Started) (H : Type) (enc : TypeId × Value → H) :
    ReturnsInHanded {} Try.checked os 4 .any (Rows.connectFactorSpec.pre6 enc Try.prog Try.f4 Rows.connectFactorRow.domain false) (Rows.connectFactorSpec.post enc Try.prog Try.f4 false true false false) := by
  refine returnsInHanded_of_change (C := Try.checked) own started (by kernel_rfl) Try.func4
    (ChangeSpec.witness6 (enc := enc) (C := Try.checked) false ⟨#[], #[.agg #[.slice none 0 0, .slice none 0 0, .int .i64 0], .int .i64 0, .int .i64 0], []⟩ 8 (by kernel_rfl) (by kernel_rfl) (by kernel_rfl) (by kernel_rfl)) ?_
  intro W base args ds gs before hval0 hW hcnd _
  have hval : ∀ (j : Nat) t v, Try.f4.params[j]? = some t → args[j]? = some v → Value.okWide Try.prog W .any base t v := hval0
  have hW' := hW
  obtain ⟨p, q, hA0, hV, rfl, hfz, hnd⟩ := hW
  have hA : DataW.TrodAll enc Try.prog W 0 (fun _ => true) true Try.f4.params.toList args.toList ds p := hA0
  rw [Try.params4] at hA hval
  obtain ⟨v0, vs0, d0, ds0, p0, q0, hargs, rfl, rfl, h0, r0⟩ := trodAll_cons hA
  obtain ⟨v1, vs1, d1, ds1, p1, q1, rfl, rfl, rfl, h1, r1⟩ := trodAll_cons r0
  obtain ⟨v2, vs2, d2, ds2, p2, q2, rfl, rfl, rfl, h2, r2⟩ := trodAll_cons r1
  obtain ⟨rfl, rfl, rfl⟩ := trodAll_nil r2
  obtain rfl : args = #[v0, v1, v2] := by cases args; simp_all
  obtain ⟨rfl, rfl⟩ := trodVars_none hV
  obtain ⟨S0, M0, L0, aS0, aM0, cS0, cM0, rfl, hS0, hM0, lS0, lM0, wL0⟩ := open_diag (hval 0 24 v0 rfl rfl) h0
  have k0 := h0
  have lt0 : ∀ x ∈ p0, x.block < W.heap.size := by obtain ⟨m, hm⟩ := k0; exact DataW.trod_lt m _ _ _ hm
  obtain ⟨i1, rfl, rfl, rfl, w1⟩ := open_int Try.underlying3 (hval 1 3 v1 rfl rfl) h1
  obtain ⟨i2, rfl, rfl, rfl, w2⟩ := open_int Try.underlying3 (hval 2 3 v2 rfl rfl) h2
  clear hA0 hval0
  refine (lfac_any S0 M0 L0 aS0 aM0 cS0 cM0 i1 i2 W lS0 lM0 wL0 hS0 hM0 w1 w2).mono fun e W' ⟨he, bel⟩ => ?_
  subst he
  exact ⟨_, rfl, _, _, _, [], _, [], hW', trodAll_mk1 (shut_bool Try.underlying4 _), (trodAll_cons_mk (Below.trod laidOut (by kernel_rfl) (of_decide_eq_true (by kernel_rfl)) k0 bel lt0) (trodAll_cons_mk (shut_int Try.underlying3 w1) (trodAll_cons_mk (shut_int Try.underlying3 w2) trodAll_mk0))), rfl, bel.frame _, fun h => by cases h⟩
theorem connectFactor_holds : Rows.ConnectFactorSaid :=
  OpenClaim.holds_of_wide 4 Try.f4 rfl rfl rfl rfl rfl rfl rfl ⟨rfl, rfl, rfl, rfl, rfl⟩ rfl rfl rfl rfl rfl connectFactor_named Try.func4 connectFactor_closed connectFactor_inst connectFactor_wrap
    (fun os started H enc _ => connectFactor_lifted os started H enc)
#print axioms connectFactor_holds
end Go.Proofs.Ytmjoijfafachhaa
