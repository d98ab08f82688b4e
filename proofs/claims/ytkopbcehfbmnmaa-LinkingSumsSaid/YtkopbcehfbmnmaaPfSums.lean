/- LinkingSums: for every diagram the law returns true, and the argument reads afterwards as before. No condition. -/
import Derived.Test.YtkopbcehfbmnmaaFrame0
import Derived.Test.YtkopbcehfbmnmaaSumsW
namespace Go.Proofs.Ytkopbcehfbmnmaa
open Go Go.RowKit Go.ChangeShapes Go.WideShapes Go.ChangeAt Go.Joins
theorem linkingSums_k0 : (Rows.linkingSumsRow.wf (OpenSpec.ofChange Rows.linkingSumsSpec)) = true := by kernel_rfl
theorem linkingSums_k3 : (Try.f4.params.all (Try.prog.readableRec ·)) = true := by kernel_rfl
theorem linkingSums_k4 : (namedTie Try.prog Rows.linkingSumsRow.named Rows.linkingSumsSpec.vars) = true := by kernel_rfl
theorem linkingSums_k5 : (Rows.linkingSumsRow.stops == []) = true := by kernel_rfl
theorem linkingSums_k7 : (Rows.linkingSumsRow.knobs == []) = true := by kernel_rfl
theorem linkingSums_k9 : (Rows.linkingSumsRow.inPlace == Try.prog.inPlace 4) = true := by kernel_rfl
theorem linkingSums_k10 : (Rows.linkingSumsRow.unfollowed == Try.prog.unfollowed 4) = true := by kernel_rfl
theorem linkingSums_k11 : (Rows.linkingSumsRow.recurses == Try.prog.recurses 4) = true := by kernel_rfl
theorem linkingSums_k12 : (Rows.linkingSumsRow.named == Try.prog.varsNamed 4) = true := by kernel_rfl
theorem linkingSums_k13 : (Rows.linkingSumsRow.maps == (Try.f4.params.toList ++ Rows.linkingSumsSpec.plain.varTypes Try.prog).any (Try.prog.mapsRec ·)) = true := by kernel_rfl
theorem linkingSums_k14 : (Rows.linkingSumsRow.ifaces == (Try.f4.params.toList ++ Rows.linkingSumsSpec.plain.varTypes Try.prog).any (Try.prog.ifacesRec ·)) = true := by kernel_rfl
theorem linkingSums_k15 : (Rows.linkingSumsRow.mapsOut == Try.prog.mapsAmong Try.f4.resultTypes.toList) = true := by kernel_rfl
theorem linkingSums_k16 : (Rows.linkingSumsRow.loops == (Try.f4.params.toList ++ Rows.linkingSumsSpec.plain.varTypes Try.prog).any (Try.prog.loopsFrom ·)) = true := by kernel_rfl
theorem linkingSums_k17 : (Rows.linkingSumsRow.wideKeys == (Try.f4.params.toList ++ Rows.linkingSumsSpec.plain.varTypes Try.prog ++ Try.f4.resultTypes.toList).any (Try.prog.wideKeysFrom ·)) = true := by kernel_rfl
theorem linkingSums_k18 : (Rows.linkingSumsSpec.vars.all (Try.prog.varReadable ·)) = true := by kernel_rfl
theorem linkingSums_k19 : (Try.f4.resultTypes.all (fun t => Try.prog.readableRec t && decide (t < Try.prog.types.size))) = true := by kernel_rfl
theorem linkingSums_k20 : (Rows.linkingSumsRow.ifacesOut == Try.f4.resultTypes.toList.any (Try.prog.ifacesRec ·)) = true := by kernel_rfl
theorem linkingSums_k21 : (Rows.linkingSumsRow.loopsOut == Try.f4.resultTypes.toList.any (Try.prog.loopsFrom ·)) = true := by kernel_rfl
theorem linkingSums_k22 : (Rows.linkingSumsRow.plainKeys == Try.prog.plainKeys) = true := by rw [prog_keys]; rfl
theorem linkingSums_k23 : (Rows.linkingSumsRow.shortTexts.isNone) = true := by kernel_rfl
theorem linkingSums_k26 : (Rows.linkingSumsRow.lifted == Try.prog.liftsFinal) = true := by rw [prog_final]; rfl
theorem linkingSums_k27 : (Try.prog.make == some Rows.linkingSumsRow.make) = true := by rw [prog_make]; rfl
theorem linkingSums_k28 : (Rows.linkingSumsRow.kinds == (if Rows.linkingSumsRow.domain.isEmpty then [] else Try.f4.params.toList.map fun t => match Try.prog.underlying t with | some (.int k) => some k | _ => none)) = true := by kernel_rfl
theorem linkingSums_k29 : (Rows.linkingSumsRow.pinned == Rows.linkingSumsRow.pinnedBy) = true := by kernel_rfl
theorem linkingSums_k30 : (Rows.linkingSumsRow.veiled == (Try.f4.params.toList ++ Rows.linkingSumsSpec.plain.varTypes Try.prog ++ Try.f4.resultTypes.toList).any (Try.prog.veiledRec ·)) = true := by kernel_rfl
theorem linkingSums_k31 : (Rows.linkingSumsRow.veiledFits Try.prog Try.f4.params.toList (Try.f4.params.toList ++ Rows.linkingSumsSpec.plain.varTypes Try.prog ++ Try.f4.resultTypes.toList)) = true := by kernel_rfl
set_option maxRecDepth 100000 in
theorem linkingSums_closed : joinedFacts Try.prog 4 Try.f4 Rows.linkingSumsSpec Rows.linkingSumsRow = true := (and2 (and2 (and2 (and2 (and2 (and2 (and2 (and2 (and2 (and2 (and2 (and2 (and2 (and2 (and2 (and2 (and2 (and2 (and2 (and2 (and2 (and2 (and2 (and2 (and2 (and2 (and2 (and2 (and2 (and2 (and2 linkingSums_k0 laidOut) prog_maps) linkingSums_k3) linkingSums_k4) linkingSums_k5) prog_stops) linkingSums_k7) prog_knobs) linkingSums_k9) linkingSums_k10) linkingSums_k11) linkingSums_k12) linkingSums_k13) linkingSums_k14) linkingSums_k15) linkingSums_k16) linkingSums_k17) linkingSums_k18) linkingSums_k19) linkingSums_k20) linkingSums_k21) linkingSums_k22) linkingSums_k23) prog_heard) prog_enter) linkingSums_k26) linkingSums_k27) linkingSums_k28) linkingSums_k29) linkingSums_k30) linkingSums_k31)
theorem linkingSums_named : Try.prog.funcNamed Rows.linkingSumsRow.func = some 4 := by kernel_rfl
theorem linkingSums_inst : Try.f4.isInstance Try.prog Rows.linkingSumsRow.origin Rows.linkingSumsRow.targs := of_decide_eq_true (by kernel_rfl)
theorem linkingSums_wrap : Try.f4.isWrapper Try.prog Rows.linkingSumsRow.wrapper Rows.linkingSumsRow.mainSum := by unfold Func.isWrapper; first | (rw [if_pos (by decide +kernel)]; kernel_rfl) | (rw [if_neg (by decide +kernel)]; exact ⟨rfl, rfl⟩)
set_option maxRecDepth 100000 in
theorem linkingSums_lifted (os : Os) (started : os.Started) (H : Type) (enc : TypeId × Value → H) :
    ReturnsInHanded {} Try.checked os 4 .any (Rows.linkingSumsSpec.pre6 enc Try.prog Try.f4 Rows.linkingSumsRow.domain false) (Rows.linkingSumsSpec.post enc Try.prog Try.f4 false true false false) := by
  refine returnsInHanded_of_change (C := Try.checked) own started (by kernel_rfl) Try.func4
    (ChangeSpec.witness6 (enc := enc) (C := Try.checked) false ⟨#[], #[.agg #[.slice none 0 0, .slice none 0 0, .int .i64 0]], []⟩ 8 (by kernel_rfl) (by kernel_rfl) (by kernel_rfl) (by kernel_rfl)) ?_
  intro W base args ds gs before hval0 hW hcnd _
  have hval : ∀ (j : Nat) t v, Try.f4.params[j]? = some t → args[j]? = some v → Value.okWide Try.prog W .any base t v := hval0
  have hW' := hW
  obtain ⟨p, q, hA0, hV, rfl, hfz, hnd⟩ := hW
  have hA : DataW.TrodAll enc Try.prog W 0 (fun _ => true) true Try.f4.params.toList args.toList ds p := hA0
  rw [Try.params4] at hA hval
  obtain ⟨v0, vs0, d0, ds0, p0, q0, hargs, rfl, rfl, h0, r0⟩ := trodAll_cons hA
  obtain ⟨rfl, rfl, rfl⟩ := trodAll_nil r0
  obtain rfl : args = #[v0] := by cases args; simp_all
  obtain ⟨rfl, rfl⟩ := trodVars_none hV
  obtain ⟨S0, M0, L0, aS0, aM0, cS0, cM0, rfl, hS0, hM0, lS0, lM0, wL0⟩ := open_diag (hval 0 24 v0 rfl rfl) h0
  have k0 := h0
  have lt0 : ∀ x ∈ p0, x.block < W.heap.size := by obtain ⟨m, hm⟩ := k0; exact DataW.trod_lt m _ _ _ hm
  clear hA0 hval0
  refine (sums_any S0 M0 L0 aS0 aM0 cS0 cM0 W lS0 lM0 wL0 hS0 hM0).mono fun e W' ⟨he, bel⟩ => ?_
  subst he
  exact ⟨_, rfl, _, _, _, [], _, [], hW', trodAll_mk1 (shut_bool Try.underlying4 _), (trodAll_cons_mk (Below.trod laidOut (by kernel_rfl) (of_decide_eq_true (by kernel_rfl)) k0 bel lt0) trodAll_mk0), rfl, bel.frame _, fun h => by cases h⟩
theorem linkingSums_holds : Rows.LinkingSumsSaid :=
  OpenClaim.holds_of_wide 4 Try.f4 rfl rfl rfl rfl rfl rfl rfl ⟨rfl, rfl, rfl, rfl, rfl⟩ rfl rfl rfl rfl rfl linkingSums_named Try.func4 linkingSums_closed linkingSums_inst linkingSums_wrap
    (fun os started H enc _ => linkingSums_lifted os started H enc)
#print axioms linkingSums_holds
end Go.Proofs.Ytkopbcehfbmnmaa
