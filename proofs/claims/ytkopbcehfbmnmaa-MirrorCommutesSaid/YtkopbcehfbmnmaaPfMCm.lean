/- MirrorCommutes: for every diagram and all numbers the law returns true, and the arguments read afterwards as before. No condition. -/
import Derived.Test.YtkopbcehfbmnmaaFrame0
import Derived.Test.YtkopbcehfbmnmaaMCmW
namespace Go.Proofs.Ytkopbcehfbmnmaa
open Go Go.RowKit Go.ChangeShapes Go.WideShapes Go.ChangeAt Go.Joins
theorem mirrorCommutes_k0 : (Rows.mirrorCommutesRow.wf (OpenSpec.ofChange Rows.mirrorCommutesSpec)) = true := by kernel_rfl
theorem mirrorCommutes_k3 : (Try.f16.params.all (Try.prog.readableRec ·)) = true := by kernel_rfl
theorem mirrorCommutes_k4 : (namedTie Try.prog Rows.mirrorCommutesRow.named Rows.mirrorCommutesSpec.vars) = true := by kernel_rfl
theorem mirrorCommutes_k5 : (Rows.mirrorCommutesRow.stops == []) = true := by kernel_rfl
theorem mirrorCommutes_k7 : (Rows.mirrorCommutesRow.knobs == []) = true := by kernel_rfl
theorem mirrorCommutes_k9 : (Rows.mirrorCommutesRow.inPlace == Try.prog.inPlace 16) = true := by kernel_rfl
theorem mirrorCommutes_k10 : (Rows.mirrorCommutesRow.unfollowed == Try.prog.unfollowed 16) = true := by kernel_rfl
theorem mirrorCommutes_k11 : (Rows.mirrorCommutesRow.recurses == Try.prog.recurses 16) = true := by kernel_rfl
theorem mirrorCommutes_k12 : (Rows.mirrorCommutesRow.named == Try.prog.varsNamed 16) = true := by kernel_rfl
theorem mirrorCommutes_k13 : (Rows.mirrorCommutesRow.maps == (Try.f16.params.toList ++ Rows.mirrorCommutesSpec.plain.varTypes Try.prog).any (Try.prog.mapsRec ·)) = true := by kernel_rfl
theorem mirrorCommutes_k14 : (Rows.mirrorCommutesRow.ifaces == (Try.f16.params.toList ++ Rows.mirrorCommutesSpec.plain.varTypes Try.prog).any (Try.prog.ifacesRec ·)) = true := by kernel_rfl
theorem mirrorCommutes_k15 : (Rows.mirrorCommutesRow.mapsOut == Try.prog.mapsAmong Try.f16.resultTypes.toList) = true := by kernel_rfl
theorem mirrorCommutes_k16 : (Rows.mirrorCommutesRow.loops == (Try.f16.params.toList ++ Rows.mirrorCommutesSpec.plain.varTypes Try.prog).any (Try.prog.loopsFrom ·)) = true := by kernel_rfl
theorem mirrorCommutes_k17 : (Rows.mirrorCommutesRow.wideKeys == (Try.f16.params.toList ++ Rows.mirrorCommutesSpec.plain.varTypes Try.prog ++ Try.f16.resultTypes.toList).any (Try.prog.wideKeysFrom ·)) = true := by kernel_rfl
theorem mirrorCommutes_k18 : (Rows.mirrorCommutesSpec.vars.all (Try.prog.varReadable ·)) = true := by kernel_rfl
theorem mirrorCommutes_k19 : (Try.f16.resultTypes.all (fun t => Try.prog.readableRec t && decide (t < Try.prog.types.size))) = true := by kernel_rfl
theorem mirrorCommutes_k20 : (Rows.mirrorCommutesRow.ifacesOut == Try.f16.resultTypes.toList.any (Try.prog.ifacesRec ·)) = true := by kernel_rfl
theorem mirrorCommutes_k21 : (Rows.mirrorCommutesRow.loopsOut == Try.f16.resultTypes.toList.any (Try.prog.loopsFrom ·)) = true := by kernel_rfl
theorem mirrorCommutes_k22 : (Rows.mirrorCommutesRow.plainKeys == Try.prog.plainKeys) = true := by rw [prog_keys]; rfl
theorem mirrorCommutes_k23 : (Rows.mirrorCommutesRow.shortTexts.isNone) = true := by kernel_rfl
theorem mirrorCommutes_k26 : (Rows.mirrorCommutesRow.lifted == Try.prog.liftsFinal) = true := by rw [prog_final]; rfl
theorem mirrorCommutes_k27 : (Try.prog.make == some Rows.mirrorCommutesRow.make) = true := by rw [prog_make]; rfl
theorem mirrorCommutes_k28 : (Rows.mirrorCommutesRow.kinds == (if Rows.mirrorCommutesRow.domain.isEmpty then [] else Try.f16.params.toList.map fun t => match Try.prog.underlying t with | some (.int k) => some k | _ => none)) = true := by kernel_rfl
theorem mirrorCommutes_k29 : (Rows.mirrorCommutesRow.pinned == Rows.mirrorCommutesRow.pinnedBy) = true := by kernel_rfl
theorem mirrorCommutes_k30 : (Rows.mirrorCommutesRow.veiled == (Try.f16.params.toList ++ Rows.mirrorCommutesSpec.plain.varTypes Try.prog ++ Try.f16.resultTypes.toList).any (Try.prog.veiledRec ·)) = true := by kernel_rfl
theorem mirrorCommutes_k31 : (Rows.mirrorCommutesRow.veiledFits Try.prog Try.f16.params.toList (Try.f16.params.toList ++ Rows.mirrorCommutesSpec.plain.varTypes Try.prog ++ Try.f16.resultTypes.toList)) = true := by kernel_rfl
set_option maxRecDepth 100000 in
theorem mirrorCommutes_closed : joinedFacts Try.prog 16 Try.f16 Rows.mirrorCommutesSpec Rows.mirrorCommutesRow = true := (and2 (and2 (and2 (and2 (and2 (and2 (and2 (and2 (and2 (and2 (and2 (and2 (and2 (and2 (and2 (and2 (and2 (and2 (and2 (and2 (and2 (and2 (and2 (and2 (and2 (and2 (and2 (and2 (and2 (and2 (and2 mirrorCommutes_k0 laidOut) prog_maps) mirrorCommutes_k3) mirrorCommutes_k4) mirrorCommutes_k5) prog_stops) mirrorCommutes_k7) prog_knobs) mirrorCommutes_k9) mirrorCommutes_k10) mirrorCommutes_k11) mirrorCommutes_k12) mirrorCommutes_k13) mirrorCommutes_k14) mirrorCommutes_k15) mirrorCommutes_k16) mirrorCommutes_k17) mirrorCommutes_k18) mirrorCommutes_k19) mirrorCommutes_k20) mirrorCommutes_k21) mirrorCommutes_k22) mirrorCommutes_k23) prog_heard) prog_enter) mirrorCommutes_k26) mirrorCommutes_k27) mirrorCommutes_k28) mirrorCommutes_k29) mirrorCommutes_k30) mirrorCommutes_k31)
theorem mirrorCommutes_named : Try.prog.funcNamed Rows.mirrorCommutesRow.func = some 16 := by kernel_rfl
theorem mirrorCommutes_inst : Try.f16.isInstance Try.prog Rows.mirrorCommutesRow.origin Rows.mirrorCommutesRow.targs := of_decide_eq_true (by kernel_rfl)
theorem mirrorCommutes_wrap : Try.f16.isWrapper Try.prog Rows.mirrorCommutesRow.wrapper Rows.mirrorCommutesRow.mainSum := by unfold Func.isWrapper; first | (rw [if_pos (by decide +kernel)]; kernel_rfl) | (rw [if_neg (by decide +kernel)]; exact ⟨rfl, rfl⟩)
set_option maxRecDepth 100000 in
theorem mirrorCommutes_lifted (os : Os) (started : os.Started) (H : Type) (enc : TypeId × Value → H) :
    ReturnsInHanded {} Try.checked os 16 .any (Rows.mirrorCommutesSpec.pre6 enc Try.prog Try.f16 Rows.mirrorCommutesRow.domain false) (Rows.mirrorCommutesSpec.post enc Try.prog Try.f16 false true false false) := by
  refine returnsInHanded_of_change (C := Try.checked) own started (by kernel_rfl) Try.func16
    (ChangeSpec.witness6 (enc := enc) (C := Try.checked) false ⟨#[], #[.agg #[.slice none 0 0, .slice none 0 0, .int .i64 0], .int .u8 0, .int .u8 0, .int .u8 0, .int .u8 0], []⟩ 8 (by kernel_rfl) (by kernel_rfl) (by kernel_rfl) (by kernel_rfl)) ?_
  intro W base args ds gs before hval0 hW hcnd _
  have hval : ∀ (j : Nat) t v, Try.f16.params[j]? = some t → args[j]? = some v → Value.okWide Try.prog W .any base t v := hval0
  have hW' := hW
  obtain ⟨p, q, hA0, hV, rfl, hfz, hnd⟩ := hW
  have hA : DataW.TrodAll enc Try.prog W 0 (fun _ => true) true Try.f16.params.toList args.toList ds p := hA0
  rw [Try.params16] at hA hval
  obtain ⟨v0, vs0, d0, ds0, p0, q0, hargs, rfl, rfl, h0, r0⟩ := trodAll_cons hA
  obtain ⟨v1, vs1, d1, ds1, p1, q1, rfl, rfl, rfl, h1, r1⟩ := trodAll_cons r0
  obtain ⟨v2, vs2, d2, ds2, p2, q2, rfl, rfl, rfl, h2, r2⟩ := trodAll_cons r1
  obtain ⟨v3, vs3, d3, ds3, p3, q3, rfl, rfl, rfl, h3, r3⟩ := trodAll_cons r2
  obtain ⟨v4, vs4, d4, ds4, p4, q4, rfl, rfl, rfl, h4, r4⟩ := trodAll_cons r3
  obtain ⟨rfl, rfl, rfl⟩ := trodAll_nil r4
  obtain rfl : args = #[v0, v1, v2, v3, v4] := by cases args; simp_all
  obtain ⟨rfl, rfl⟩ := trodVars_none hV
  obtain ⟨S0, M0, L0, aS0, aM0, cS0, cM0, rfl, hS0, hM0, lS0, lM0, wL0⟩ := open_diag (hval 0 24 v0 rfl rfl) h0
  have k0 := h0
  have lt0 : ∀ x ∈ p0, x.block < W.heap.size := by obtain ⟨m, hm⟩ := k0; exact DataW.trod_lt m _ _ _ hm
  obtain ⟨i1, rfl, rfl, rfl, w1⟩ := open_int Try.underlying5 (hval 1 5 v1 rfl rfl) h1
  obtain ⟨i2, rfl, rfl, rfl, w2⟩ := open_int Try.underlying5 (hval 2 5 v2 rfl rfl) h2
  obtain ⟨i3, rfl, rfl, rfl, w3⟩ := open_int Try.underlying5 (hval 3 5 v3 rfl rfl) h3
  obtain ⟨i4, rfl, rfl, rfl, w4⟩ := open_int Try.underlying5 (hval 4 5 v4 rfl rfl) h4
  clear hA0 hval0
  refine (mcm_any S0 M0 L0 aS0 aM0 cS0 cM0 i1 i2 i3 i4 W lS0 lM0 wL0 hS0 hM0 w1 w2 w3 w4).mono fun e W' ⟨he, bel⟩ => ?_
  subst he
  exact ⟨_, rfl, _, _, _, [], _, [], hW', trodAll_mk1 (shut_bool Try.underlying4 _), (trodAll_cons_mk (Below.trod laidOut (by kernel_rfl) (of_decide_eq_true (by kernel_rfl)) k0 bel lt0) (trodAll_cons_mk (shut_int Try.underlying5 w1) (trodAll_cons_mk (shut_int Try.underlying5 w2) (trodAll_cons_mk (shut_int Try.underlying5 w3) (trodAll_cons_mk (shut_int Try.underlying5 w4) trodAll_mk0))))), rfl, bel.frame _, fun h => by cases h⟩
theorem mirrorCommutes_holds : Rows.MirrorCommutesSaid :=
  OpenClaim.holds_of_wide 16 Try.f16 rfl rfl rfl rfl rfl rfl rfl ⟨rfl, rfl, rfl, rfl, rfl⟩ rfl rfl rfl rfl rfl mirrorCommutes_named Try.func16 mirrorCommutes_closed mirrorCommutes_inst mirrorCommutes_wrap
    (fun os started H enc _ => mirrorCommutes_lifted os started H enc)
#print axioms mirrorCommutes_holds
end Go.Proofs.Ytkopbcehfbmnmaa
