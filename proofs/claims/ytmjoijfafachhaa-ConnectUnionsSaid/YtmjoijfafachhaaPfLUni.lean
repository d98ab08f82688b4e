/- ConnectUnions: Union returns the specified diagram or error; it is valid, and has the components of both: the law returns true for every input. -/
import Derived.Test.YtmjoijfafachhaaFrame0
import Derived.Test.YtmjoijfafachhaaLUni
namespace Go.Proofs.Ytmjoijfafachhaa
open Go Go.RowKit Go.ChangeShapes Go.WideShapes Go.ChangeAt Go.Joins
theorem connectUnions_k0 : (Rows.connectUnionsRow.wf (OpenSpec.ofChange Rows.connectUnionsSpec)) = true := by kernel_rfl
theorem connectUnions_k3 : (Try.f11.params.all (Try.prog.readableRec ·)) = true := by kernel_rfl
theorem connectUnions_k4 : (namedTie Try.prog Rows.connectUnionsRow.named Rows.connectUnionsSpec.vars) = true := by kernel_rfl
theorem connectUnions_k5 : (Rows.connectUnionsRow.stops == []) = true := by kernel_rfl
theorem connectUnions_k7 : (Rows.connectUnionsRow.knobs == []) = true := by kernel_rfl
theorem connectUnions_k9 : (Rows.connectUnionsRow.inPlace == Try.prog.inPlace 11) = true := by kernel_rfl
theorem connectUnions_k10 : (Rows.connectUnionsRow.unfollowed == Try.prog.unfollowed 11) = true := by kernel_rfl
theorem connectUnions_k11 : (Rows.connectUnionsRow.recurses == Try.prog.recurses 11) = true := by kernel_rfl
theorem connectUnions_k12 : (Rows.connectUnionsRow.named == Try.prog.varsNamed 11) = true := by kernel_rfl
theorem connectUnions_k13 : (Rows.connectUnionsRow.maps == (Try.f11.params.toList ++ Rows.connectUnionsSpec.plain.varTypes Try.prog).any (Try.prog.mapsRec ·)) = true := by kernel_rfl
theorem connectUnions_k14 : (Rows.connectUnionsRow.ifaces == (Try.f11.params.toList ++ Rows.connectUnionsSpec.plain.varTypes Try.prog).any (Try.prog.ifacesRec ·)) = true := by kernel_rfl
theorem connectUnions_k15 : (Rows.connectUnionsRow.mapsOut == Try.prog.mapsAmong Try.f11.resultTypes.toList) = true := by kernel_rfl
theorem connectUnions_k16 : (Rows.connectUnionsRow.loops == (Try.f11.params.toList ++ Rows.connectUnionsSpec.plain.varTypes Try.prog).any (Try.prog.loopsFrom ·)) = true := by kernel_rfl
theorem connectUnions_k17 : (Rows.connectUnionsRow.wideKeys == (Try.f11.params.toList ++ Rows.connectUnionsSpec.plain.varTypes Try.prog ++ Try.f11.resultTypes.toList).any (Try.prog.wideKeysFrom ·)) = true := by kernel_rfl
theorem connectUnions_k18 : (Rows.connectUnionsSpec.vars.all (Try.prog.varReadable ·)) = true := by kernel_rfl
theorem connectUnions_k19 : (Try.f11.resultTypes.all (fun t => Try.prog.readableRec t && decide (t < Try.prog.types.size))) = true := by kernel_rfl
theorem connectUnions_k20 : (Rows.connectUnionsRow.ifacesOut == Try.f11.resultTypes.toList.any (Try.prog.ifacesRec ·)) = true := by kernel_rfl
theorem connectUnions_k21 : (Rows.connectUnionsRow.loopsOut == Try.f11.resultTypes.toList.any (Try.prog.loopsFrom ·)) = true := by kernel_rfl
theorem connectUnions_k22 : (Rows.connectUnionsRow.plainKeys == Try.prog.plainKeys) = true := by rw [prog_keys]; rfl
theorem connectUnions_k23 : (Rows.connectUnionsRow.shortTexts.isNone) = true := by kernel_rfl
theorem connectUnions_k26 : (Rows.connectUnionsRow.lifted == Try.prog.liftsFinal) = true := by rw [prog_final]; rfl
theorem connectUnions_k27 : (Try.prog.make == some Rows.connectUnionsRow.make) = true := by rw [prog_make]; rfl
theorem connectUnions_k28 : (Rows.connectUnionsRow.kinds == (if Rows.connectUnionsRow.domain.isEmpty then [] else Try.f11.params.toList.map fun t => match Try.prog.underlying t with | some (.int k) => some k | _ => none)) = true := by kernel_rfl
theorem connectUnions_k29 : (Rows.connectUnionsRow.pinned == Rows.connectUnionsRow.pinnedBy) = true := by kernel_rfl
theorem connectUnions_k30 : (Rows.connectUnionsRow.veiled == (Try.f11.params.toList ++ Rows.connectUnionsSpec.plain.varTypes Try.prog ++ Try.f11.resultTypes.toList).any (Try.prog.veiledRec ·)) = true := by kernel_rfl
theorem connectUnions_k31 : (Rows.connectUnionsRow.veiledFits Try.prog Try.f11.params.toList (Try.f11.params.toList ++ Rows.connectUnionsSpec.plain.varTypes Try.prog ++ Try.f11.resultTypes.toList)) = true := by kernel_rfl
set_option maxRecDepth 100000 in
theorem connectUnions_closed : joinedFacts Try.prog 11 Try.f11 Rows.connectUnionsSpec Rows.connectUnionsRow = true := (and2 (and2 (and2 (and2 (and2 (and2 (and2 (and2 (and2 (and2 (and2 (and2 (and2 (and2 (and2 (and2 (and2 (and2 (and2 (and2 (and2 (and2 (and2 (and2 (and2 (and2 (and2 (and2 (and2 (and2 (and2 connectUnions_k0 laidOut) prog_maps) connectUnions_k3) connectUnions_k4) connectUnions_k5) prog_stops) connectUnions_k7) prog_knobs) connectUnions_k9) connectUnions_k10) connectUnions_k11) connectUnions_k12) connectUnions_k13) connectUnions_k14) connectUnions_k15) connectUnions_k16) connectUnions_k17) connectUnions_k18) connectUnions_k19) connectUnions_k20) connectUnions_k21) connectUnions_k22) connectUnions_k23) prog_heard) prog_enter) connectUnions_k26) connectUnions_k27) connectUnions_k28) connectUnions_k29) connectUnions_k30) connectUnions_k31)
theorem connectUnions_named : Try.prog.funcNamed Rows.connectUnionsRow.func = some 11 := by kernel_rfl
theorem connectUnions_inst : Try.f11.isInstance Try.prog Rows.connectUnionsRow.origin Rows.connectUnionsRow.targs := of_decide_eq_true (by kernel_rfl)
theorem connectUnions_wrap : Try.f11.isWrapper Try.prog Rows.connectUnionsRow.wrapper Rows.connectUnionsRow.mainSum := by unfold Func.isWrapper; first | (rw [if_pos (by decide +kernel)]; kernel_rfl) | (rw [if_neg (by decide +kernel)]; exact ⟨rfl, rfl⟩)
set_option maxRecDepth 100000 in
theorem connectUnions_lifted (os : Os) (started : os.Started) (H : Type) (enc : TypeId × Value → H) :
    ReturnsInHanded {} Try.checked os 11 .any (Rows.connectUnionsSpec.pre6 enc Try.prog Try.f11 Rows.connectUnionsRow.domain false) (Rows.connectUnionsSpec.post enc Try.prog Try.f11 false true false false) := by
  refine returnsInHanded_of_change (C := Try.checked) own started (by kernel_rfl) Try.func11
    (ChangeSpec.witness6 (enc := enc) (C := Try.checked) false ⟨#[], #[.agg #[.slice none 0 0, .slice none 0 0, .int .i64 0], .agg #[.slice none 0 0, .slice none 0 0, .int .i64 0], .int .u8 0], []⟩ 8 (by kernel_rfl) (by kernel_rfl) (by kernel_rfl) (by kernel_rfl)) ?_
  intro W base args ds gs before hval0 hW hcnd _
  have hval : ∀ (j : Nat) t v, Try.f11.params[j]? = some t → args[j]? = some v → Value.okWide Try.prog W .any base t v := hval0
  have hW' := hW
  obtain ⟨p, q, hA0, hV, rfl, hfz, hnd⟩ := hW
  have hA : DataW.TrodAll enc Try.prog W 0 (fun _ => true) true Try.f11.params.toList args.toList ds p := hA0
  rw [Try.params11] at hA hval
  obtain ⟨v0, vs0, d0, ds0, p0, q0, hargs, rfl, rfl, h0, r0⟩ := trodAll_cons hA
  obtain ⟨v1, vs1, d1, ds1, p1, q1, rfl, rfl, rfl, h1, r1⟩ := trodAll_cons r0
  obtain ⟨v2, vs2, d2, ds2, p2, q2, rfl, rfl, rfl, h2, r2⟩ := trodAll_cons r1
  obtain ⟨rfl, rfl, rfl⟩ := trodAll_nil r2
  obtain rfl : args = #[v0, v1, v2] := by cases args; simp_all
  obtain ⟨rfl, rfl⟩ := trodVars_none hV
  obtain ⟨S0, M0, L0, aS0, aM0, cS0, cM0, rfl, hS0, hM0, lS0, lM0, wL0⟩ := open_diag (hval 0 24 v0 rfl rfl) h0
  have k0 := h0
  have lt0 : ∀ x ∈ p0, x.block < W.heap.size := by obtain ⟨m, hm⟩ := k0; exact DataW.trod_lt m _ _ _ hm
  obtain ⟨S1, M1, L1, aS1, aM1, cS1, cM1, rfl, hS1, hM1, lS1, lM1, wL1⟩ := open_diag (hval 1 24 v1 rfl rfl) h1
  have k1 := h1
  have lt1 : ∀ x ∈ p1, x.block < W.heap.size := by obtain ⟨m, hm⟩ := k1; exact DataW.trod_lt m _ _ _ hm
  obtain ⟨i2, rfl, rfl, rfl, w2⟩ := open_int Try.underlying5 (hval 2 5 v2 rfl rfl) h2
  clear hA0 hval0
  refine (luni_any S0 M0 L0 aS0 aM0 cS0 cM0 S1 M1 L1 aS1 aM1 cS1 cM1 i2 W lS0 lM0 wL0 hS0 hM0 lS1 lM1 wL1 hS1 hM1 w2).mono fun e W' ⟨he, bel⟩ => ?_
  subst he
  exact ⟨_, rfl, _, _, _, [], _, [], hW', trodAll_mk1 (shut_bool Try.underlying4 _), (trodAll_cons_mk (Below.trod laidOut (by kernel_rfl) (of_decide_eq_true (by kernel_rfl)) k0 bel lt0) (trodAll_cons_mk (Below.trod laidOut (by kernel_rfl) (of_decide_eq_true (by kernel_rfl)) k1 bel lt1) (trodAll_cons_mk (shut_int Try.underlying5 w2) trodAll_mk0))), rfl, bel.frame _, fun h => by cases h⟩
theorem connectUnions_holds : Rows.ConnectUnionsSaid :=
  OpenClaim.holds_of_wide 11 Try.f11 rfl rfl rfl rfl rfl rfl rfl ⟨rfl, rfl, rfl, rfl, rfl⟩ rfl rfl rfl rfl rfl connectUnions_named Try.func11 connectUnions_closed connectUnions_inst connectUnions_wrap
    (fun os started H enc _ => connectUnions_lifted os started H enc)
#print axioms connectUnions_holds
end Go.Proofs.Ytmjoijfafachhaa
