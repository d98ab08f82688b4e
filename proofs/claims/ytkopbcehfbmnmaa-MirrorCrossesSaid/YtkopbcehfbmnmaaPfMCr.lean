/- The law MirrorCrosses: smoothing two crossings in either order yields the same diagram, and smoothing commutes with mirror images and reversal. No condition. -/
import Derived.Test.YtkopbcehfbmnmaaFrame0
import Derived.Test.YtkopbcehfbmnmaaMCrC
namespace Go.Proofs.Ytkopbcehfbmnmaa
open Go Go.RowKit Go.ChangeShapes Go.WideShapes Go.ChangeAt Go.Joins
theorem mirrorCrosses_k0 : (Rows.mirrorCrossesRow.wf (OpenSpec.ofChange Rows.mirrorCrossesSpec)) = true := by kernel_rfl
theorem mirrorCrosses_k3 : (Try.f17.params.all (Try.prog.readableRec ·)) = true := by kernel_rfl
theorem mirrorCrosses_k4 : (namedTie Try.prog Rows.mirrorCrossesRow.named Rows.mirrorCrossesSpec.vars) = true := by kernel_rfl
theorem mirrorCrosses_k5 : (Rows.mirrorCrossesRow.stops == []) = true := by kernel_rfl
theorem mirrorCrosses_k7 : (Rows.mirrorCrossesRow.knobs == []) = true := by kernel_rfl
theorem mirrorCrosses_k9 : (Rows.mirrorCrossesRow.inPlace == Try.prog.inPlace 17) = true := by kernel_rfl
theorem mirrorCrosses_k10 : (Rows.mirrorCrossesRow.unfollowed == Try.prog.unfollowed 17) = true := by kernel_rfl
theorem mirrorCrosses_k11 : (Rows.mirrorCrossesRow.recurses == Try.prog.recurses 17) = true := by kernel_rfl
theorem mirrorCrosses_k12 : (Rows.mirrorCrossesRow.named == Try.prog.varsNamed 17) = true := by kernel_rfl
theorem mirrorCrosses_k13 : (Rows.mirrorCrossesRow.maps == (Try.f17.params.toList ++ Rows.mirrorCrossesSpec.plain.varTypes Try.prog).any (Try.prog.mapsRec ·)) = true := by kernel_rfl
theorem mirrorCrosses_k14 : (Rows.mirrorCrossesRow.ifaces == (Try.f17.params.toList ++ Rows.mirrorCrossesSpec.plain.varTypes Try.prog).any (Try.prog.ifacesRec ·)) = true := by kernel_rfl
theorem mirrorCrosses_k15 : (Rows.mirrorCrossesRow.mapsOut == Try.prog.mapsAmong Try.f17.resultTypes.toList) = true := by kernel_rfl
theorem mirrorCrosses_k16 : (Rows.mirrorCrossesRow.loops == (Try.f17.params.toList ++ Rows.mirrorCrossesSpec.plain.varTypes Try.prog).any (Try.prog.loopsFrom ·)) = true := by kernel_rfl
theorem mirrorCrosses_k17 : (Rows.mirrorCrossesRow.wideKeys == (Try.f17.params.toList ++ Rows.mirrorCrossesSpec.plain.varTypes Try.prog ++ Try.f17.resultTypes.toList).any (Try.prog.wideKeysFrom ·)) = true := by kernel_rfl
theorem mirrorCrosses_k18 : (Rows.mirrorCrossesSpec.vars.all (Try.prog.varReadable ·)) = true := by kernel_rfl
theorem mirrorCrosses_k19 : (Try.f17.resultTypes.all (fun t => Try.prog.readableRec t && decide (t < Try.prog.types.size))) = true := by kernel_rfl
theorem mirrorCrosses_k20 : (Rows.mirrorCrossesRow.ifacesOut == Try.f17.resultTypes.toList.any (Try.prog.ifacesRec ·)) = true := by kernel_rfl
theorem mirrorCrosses_k21 : (Rows.mirrorCrossesRow.loopsOut == Try.f17.resultTypes.toList.any (Try.prog.loopsFrom ·)) = true := by kernel_rfl
theorem mirrorCrosses_k22 : (Rows.mirrorCrossesRow.plainKeys == Try.prog.plainKeys) = true := by rw [prog_keys]; rfl
theorem mirrorCrosses_k23 : (Rows.mirrorCrossesRow.shortTexts.isNone) = true := by kernel_rfl
theorem mirrorCrosses_k26 : (Rows.mirrorCrossesRow.lifted == Try.prog.liftsFinal) = true := by rw [prog_final]; rfl
theorem mirrorCrosses_k27 : (Try.prog.make == some Rows.mirrorCrossesRow.make) = true := by rw [prog_make]; rfl
theorem mirrorCrosses_k28 : (Rows.mirrorCrossesRow.kinds == (if Rows.mirrorCrossesRow.domain.isEmpty then [] else Try.f17.params.toList.map fun t => match Try.prog.underlying t with | some (.int k) => some k | _ => none)) = true := by kernel_rfl
theorem mirrorCrosses_k29 : (Rows.mirrorCrossesRow.pinned == Rows.mirrorCrossesRow.pinnedBy) = true := by kernel_rfl
theorem mirrorCrosses_k30 : (Rows.mirrorCrossesRow.veiled == (Try.f17.params.toList ++ Rows.mirrorCrossesSpec.plain.varTypes Try.prog ++ Try.f17.resultTypes.toList).any (Try.prog.veiledRec ·)) = true := by kernel_rfl
theorem mirrorCrosses_k31 : (Rows.mirrorCrossesRow.veiledFits Try.prog Try.f17.params.toList (Try.f17.params.toList ++ Rows.mirrorCrossesSpec.plain.varTypes Try.prog ++ Try.f17.resultTypes.toList)) = true := by kernel_rfl
set_option maxRecDepth 100000 in
theorem mirrorCrosses_closed : joinedFacts Try.prog 17 Try.f17 Rows.mirrorCrossesSpec Rows.mirrorCrossesRow = true := (and2 (and2 (and2 (and2 (and2 (and2 (and2 (and2 (and2 (and2 (and2 (and2 (and2 (and2 (and2 (and2 (and2 (and2 (and2 (and2 (and2 (and2 (and2 (and2 (and2 (and2 (and2 (and2 (and2 (and2 (and2 mirrorCrosses_k0 laidOut) prog_maps) mirrorCrosses_k3) mirrorCrosses_k4) mirrorCrosses_k5) prog_stops) mirrorCrosses_k7) prog_knobs) mirrorCrosses_k9) mirrorCrosses_k10) mirrorCrosses_k11) mirrorCrosses_k12) mirrorCrosses_k13) mirrorCrosses_k14) mirrorCrosses_k15) mirrorCrosses_k16) mirrorCrosses_k17) mirrorCrosses_k18) mirrorCrosses_k19) mirrorCrosses_k20) mirrorCrosses_k21) mirrorCrosses_k22) mirrorCrosses_k23) prog_heard) prog_enter) mirrorCrosses_k26) mirrorCrosses_k27) mirrorCrosses_k28) mirrorCrosses_k29) mirrorCrosses_k30) mirrorCrosses_k31)
theorem mirrorCrosses_named : Try.prog.funcNamed Rows.mirrorCrossesRow.func = some 17 := by kernel_rfl
theorem mirrorCrosses_inst : Try.f17.isInstance Try.prog Rows.mirrorCrossesRow.origin Rows.mirrorCrossesRow.targs := of_decide_eq_true (by kernel_rfl)
theorem mirrorCrosses_wrap : Try.f17.isWrapper Try.prog Rows.mirrorCrossesRow.wrapper Rows.mirrorCrossesRow.mainSum := by unfold Func.isWrapper; first | (rw [if_pos (by decide +kernel)]; kernel_rfl) | (rw [if_neg (by decide +kernel)]; exact ⟨rfl, rfl⟩)
set_option maxRecDepth 100000 in
theorem mirrorCrosses_lifted (os : Os) (started : os.Started) (H : Type) (enc : TypeId × Value → H) :
    ReturnsInHanded {} Try.checked os 17 .any (Rows.mirrorCrossesSpec.pre6 enc Try.prog Try.f17 Rows.mirrorCrossesRow.domain false) (Rows.mirrorCrossesSpec.post enc Try.prog Try.f17 false true false false) := by
  refine returnsInHanded_of_change (C := Try.checked) own started (by kernel_rfl) Try.func17
    (ChangeSpec.witness6 (enc := enc) (C := Try.checked) false ⟨#[], #[.agg #[.slice none 0 0, .slice none 0 0, .int .i64 0], .int .u8 0, .int .u8 0, .int .u8 0], []⟩ 8 (by kernel_rfl) (by kernel_rfl) (by kernel_rfl) (by kernel_rfl)) ?_
  intro W base args ds gs before hval0 hW hcnd _
  have hval : ∀ (j : Nat) t v, Try.f17.params[j]? = some t → args[j]? = some v → Value.okWide Try.prog W .any base t v := hval0
  have hW' := hW
  obtain ⟨p, q, hA0, hV, rfl, hfz, hnd⟩ := hW
  have hA : DataW.TrodAll enc Try.prog W 0 (fun _ => true) true Try.f17.params.toList args.toList ds p := hA0
  rw [Try.params17] at hA hval
  obtain ⟨v0, vs0, d0, ds0, p0, q0, hargs, rfl, rfl, h0, r0⟩ := trodAll_cons hA
  obtain ⟨v1, vs1, d1, ds1, p1, q1, rfl, rfl, rfl, h1, r1⟩ := trodAll_cons r0
  obtain ⟨v2, vs2, d2, ds2, p2, q2, rfl, rfl, rfl, h2, r2⟩ := trodAll_cons r1
  obtain ⟨v3, vs3, d3, ds3, p3, q3, rfl, rfl, rfl, h3, r3⟩ := trodAll_cons r2
  obtain ⟨rfl, rfl, rfl⟩ := trodAll_nil r3
  obtain rfl : args = #[v0, v1, v2, v3] := by cases args; simp_all
  obtain ⟨rfl, rfl⟩ := trodVars_none hV
  obtain ⟨S0, M0, L0, aS0, aM0, cS0, cM0, rfl, hS0, hM0, lS0, lM0, wL0⟩ := open_diag (hval 0 24 v0 rfl rfl) h0
  have k0 := h0
  have lt0 : ∀ x ∈ p0, x.block < W.heap.size := by obtain ⟨m, hm⟩ := k0; exact DataW.trod_lt m _ _ _ hm
  obtain ⟨i1, rfl, rfl, rfl, w1⟩ := open_int Try.underlying5 (hval 1 5 v1 rfl rfl) h1
  obtain ⟨i2, rfl, rfl, rfl, w2⟩ := open_int Try.underlying5 (hval 2 5 v2 rfl rfl) h2
  obtain ⟨i3, rfl, rfl, rfl, w3⟩ := open_int Try.underlying5 (hval 3 5 v3 rfl rfl) h3
  clear hA0 hval0
  refine (mcr_any S0 M0 L0 aS0 aM0 cS0 cM0 i1 i2 i3 W lS0 lM0 wL0 hS0 hM0 w1 w2 w3).mono fun e W' ⟨he, bel⟩ => ?_
  subst he
  exact ⟨_, rfl, _, _, _, [], _, [], hW', trodAll_mk1 (shut_bool Try.underlying4 _), (trodAll_cons_mk (Below.trod laidOut (by kernel_rfl) (of_decide_eq_true (by kernel_rfl)) k0 bel lt0) (trodAll_cons_mk (shut_int Try.underlying5 w1) (trodAll_cons_mk (shut_int Try.underlying5 w2) (trodAll_cons_mk (shut_int Try.underlying5 w3) trodAll_mk0)))), rfl, bel.frame _, fun h => by cases h⟩
theorem mirrorCrosses_holds : Rows.MirrorCrossesSaid :=
  OpenClaim.holds_of_wide 17 Try.f17 rfl rfl rfl rfl rfl rfl rfl ⟨rfl, rfl, rfl, rfl, rfl⟩ rfl rfl rfl rfl rfl mirrorCrosses_named Try.func17 mirrorCrosses_closed mirrorCrosses_inst mirrorCrosses_wrap
    (fun os started H enc _ => mirrorCrosses_lifted os started H enc)
#print axioms mirrorCrosses_holds
end Go.Proofs.Ytkopbcehfbmnmaa
