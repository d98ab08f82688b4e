/- LinkingTells: for every diagram d and all numbers i and k the law returns true, and each argument reads afterwards as before. No condition. -/
import Derived.Test.YtkopbcehfbmnmaaFrame0
import Derived.Test.YtkopbcehfbmnmaaTellsW
namespace Go.Proofs.Ytkopbcehfbmnmaa
open Go Go.RowKit Go.ChangeShapes Go.WideShapes Go.ChangeAt Go.Joins
theorem linkingTells_k0 : (Rows.linkingTellsRow.wf (OpenSpec.ofChange Rows.linkingTellsSpec)) = true := by kernel_rfl
theorem linkingTells_k3 : (Try.f3.params.all (Try.prog.readableRec ·)) = true := by kernel_rfl
theorem linkingTells_k4 : (namedTie Try.prog Rows.linkingTellsRow.named Rows.linkingTellsSpec.vars) = true := by kernel_rfl
theorem linkingTells_k5 : (Rows.linkingTellsRow.stops == []) = true := by kernel_rfl
theorem linkingTells_k7 : (Rows.linkingTellsRow.knobs == []) = true := by kernel_rfl
theorem linkingTells_k9 : (Rows.linkingTellsRow.inPlace == Try.prog.inPlace 3) = true := by kernel_rfl
theorem linkingTells_k10 : (Rows.linkingTellsRow.unfollowed == Try.prog.unfollowed 3) = true := by kernel_rfl
theorem linkingTells_k11 : (Rows.linkingTellsRow.recurses == Try.prog.recurses 3) = true := by kernel_rfl
theorem linkingTells_k12 : (Rows.linkingTellsRow.named == Try.prog.varsNamed 3) = true := by kernel_rfl
theorem linkingTells_k13 : (Rows.linkingTellsRow.maps == (Try.f3.params.toList ++ Rows.linkingTellsSpec.plain.varTypes Try.prog).any (Try.prog.mapsRec ·)) = true := by kernel_rfl
theorem linkingTells_k14 : (Rows.linkingTellsRow.ifaces == (Try.f3.params.toList ++ Rows.linkingTellsSpec.plain.varTypes Try.prog).any (Try.prog.ifacesRec ·)) = true := by kernel_rfl
theorem linkingTells_k15 : (Rows.linkingTellsRow.mapsOut == Try.prog.mapsAmong Try.f3.resultTypes.toList) = true := by kernel_rfl
theorem linkingTells_k16 : (Rows.linkingTellsRow.loops == (Try.f3.params.toList ++ Rows.linkingTellsSpec.plain.varTypes Try.prog).any (Try.prog.loopsFrom ·)) = true := by kernel_rfl
theorem linkingTells_k17 : (Rows.linkingTellsRow.wideKeys == (Try.f3.params.toList ++ Rows.linkingTellsSpec.plain.varTypes Try.prog ++ Try.f3.resultTypes.toList).any (Try.prog.wideKeysFrom ·)) = true := by kernel_rfl
theorem linkingTells_k18 : (Rows.linkingTellsSpec.vars.all (Try.prog.varReadable ·)) = true := by kernel_rfl
theorem linkingTells_k19 : (Try.f3.resultTypes.all (fun t => Try.prog.readableRec t && decide (t < Try.prog.types.size))) = true := by kernel_rfl
theorem linkingTells_k20 : (Rows.linkingTellsRow.ifacesOut == Try.f3.resultTypes.toList.any (Try.prog.ifacesRec ·)) = true := by kernel_rfl
theorem linkingTells_k21 : (Rows.linkingTellsRow.loopsOut == Try.f3.resultTypes.toList.any (Try.prog.loopsFrom ·)) = true := by kernel_rfl
theorem linkingTells_k22 : (Rows.linkingTellsRow.plainKeys == Try.prog.plainKeys) = true := by rw [prog_keys]; rfl
theorem linkingTells_k23 : (Rows.linkingTellsRow.shortTexts.isNone) = true := by kernel_rfl
theorem linkingTells_k26 : (Rows.linkingTellsRow.lifted == Try.prog.liftsFinal) = true := by rw [prog_final]; rfl
theorem linkingTells_k27 : (Try.prog.make == some Rows.linkingTellsRow.make) = true := by rw [prog_make]; rfl
theorem linkingTells_k28 : (Rows.linkingTellsRow.kinds == (if Rows.linkingTellsRow.domain.isEmpty then [] else Try.f3.params.toList.map fun t => match Try.prog.underlying t with | some (.int k) => some k | _ => none)) = true := by kernel_rfl
theorem linkingTells_k29 : (Rows.linkingTellsRow.pinned == Rows.linkingTellsRow.pinnedBy) = true := by kernel_rfl
theorem linkingTells_k30 : (Rows.linkingTellsRow.veiled == (Try.f3.params.toList ++ Rows.linkingTellsSpec.plain.varTypes Try.prog ++ Try.f3.resultTypes.toList).any (Try.prog.veiledRec ·)) = true := by kernel_rfl
theorem linkingTells_k31 : (Rows.linkingTellsRow.veiledFits Try.prog Try.f3.params.toList (Try.f3.params.toList ++ Rows.linkingTellsSpec.plain.varTypes Try.prog ++ Try.f3.resultTypes.toList)) = true := by kernel_rfl
set_option maxRecDepth 100000 in
theorem linkingTells_closed : joinedFacts Try.prog 3 Try.f3 Rows.linkingTellsSpec Rows.linkingTellsRow = true := (and2 (and2 (and2 (and2 (and2 (and2 (and2 (and2 (and2 (and2 (and2 (and2 (and2 (and2 (and2 (and2 (and2 (and2 (and2 (and2 (and2 (and2 (and2 (and2 (and2 (and2 (and2 (and2 (and2 (and2 (and2 linkingTells_k0 laidOut) prog_maps) linkingTells_k3) linkingTells_k4) linkingTells_k5) prog_stops) linkingTells_k7) prog_knobs) linkingTells_k9) linkingTells_k10) linkingTells_k11) linkingTells_k12) linkingTells_k13) linkingTells_k14) linkingTells_k15) linkingTells_k16) linkingTells_k17) linkingTells_k18) linkingTells_k19) linkingTells_k20) linkingTells_k21) linkingTells_k22) linkingTells_k23) prog_heard) prog_enter) linkingTells_k26) linkingTells_k27) linkingTells_k28) linkingTells_k29) linkingTells_k30) linkingTells_k31)
theorem linkingTells_named : Try.prog.funcNamed Rows.linkingTellsRow.func = some 3 := by kernel_rfl
theorem linkingTells_inst : Try.f3.isInstance Try.prog Rows.linkingTellsRow.origin Rows.linkingTellsRow.targs := of_decide_eq_true (by kernel_rfl)
theorem linkingTells_wrap : Try.f3.isWrapper Try.prog Rows.linkingTellsRow.wrapper Rows.linkingTellsRow.mainSum := by unfold Func.isWrapper; first | (rw [if_pos (by decide +kernel)]; kernel_rfl) | (rw [if_neg (by decide +kernel)]; exact ⟨rfl, rfl⟩)
set_option maxRecDepth 100000 in
theorem linkingTells_lifted (os : Os) (started : os.Started) (H : Type) (enc : TypeId × Value → H) :
    ReturnsInHanded {} Try.checked os 3 .any (Rows.linkingTellsSpec.pre6 enc Try.prog Try.f3 Rows.linkingTellsRow.domain false) (Rows.linkingTellsSpec.post enc Try.prog Try.f3 false true false false) := by
  refine returnsInHanded_of_change (C := Try.checked) own started (by kernel_rfl) Try.func3
    (ChangeSpec.witness6 (enc := enc) (C := Try.checked) false ⟨#[], #[.agg #[.slice none 0 0, .slice none 0 0, .int .i64 0], .int .i64 0, .int .i64 0], []⟩ 8 (by kernel_rfl) (by kernel_rfl) (by kernel_rfl) (by kernel_rfl)) ?_
  intro W base args ds gs before hval0 hW hcnd _
  have hval : ∀ (j : Nat) t v, Try.f3.params[j]? = some t → args[j]? = some v → Value.okWide Try.prog W .any base t v := hval0
  have hW' := hW
  obtain ⟨p, q, hA0, hV, rfl, hfz, hnd⟩ := hW
  have hA : DataW.TrodAll enc Try.prog W 0 (fun _ => true) true Try.f3.params.toList args.toList ds p := hA0
  rw [Try.params3] at hA hval
  obtain ⟨v0, vs0, d0, ds0, p0, q0, hargs, rfl, rfl, h0, r0⟩ := trodAll_cons hA
  obtain ⟨v1, vs1, d1, ds1, p1, q1, rfl, rfl, rfl, h1, r1⟩ := trodAll_cons r0
  obtain ⟨v2, vs2, d2, ds2, p2, q2, rfl, rfl, rfl, h2, r2⟩ := trodAll_cons r1
  obtain ⟨rfl, rfl, rfl⟩ := trodAll_nil r2
  obtain rfl : args = #[v0, v1, v2] := by cases args; simp_all
  obtain ⟨rfl, rfl⟩ := trodVars_none hV
  obtain ⟨S0, M0, L0, aS0, aM0, cS0, cM0, rfl, hS0, hM0, lS0, lM0, wL0⟩ := open_diag (hval 0 24 v0 rfl rfl) h0
  have k0 := h0
  have lt0 : ∀ x ∈ p0, x.block < W.heap.size := by obtain ⟨m, hm⟩ := k0; exact DataW.trod_lt m _ _ _ hm
  obtain ⟨i1, rfl, rfl, rfl, w1⟩ := open_int Try.underlying3 (hval 1 3 v1 rfl rfl) h1
  obtain ⟨i2, rfl, rfl, rfl, w2⟩ := open_int Try.underlying3 (hval 2 3 v2 rfl rfl) h2
  clear hA0 hval0
  refine (tells_any S0 M0 L0 aS0 aM0 cS0 cM0 i1 i2 W lS0 lM0 wL0 hS0 hM0 w1 w2).mono fun e W' ⟨he, bel⟩ => ?_
  subst he
  exact ⟨_, rfl, _, _, _, [], _, [], hW', trodAll_mk1 (shut_bool Try.underlying4 _), (trodAll_cons_mk (Below.trod laidOut (by kernel_rfl) (of_decide_eq_true (by kernel_rfl)) k0 bel lt0) (trodAll_cons_mk (shut_int Try.underlying3 w1) (trodAll_cons_mk (shut_int Try.underlying3 w2) trodAll_mk0))), rfl, bel.frame _, fun h => by cases h⟩
theorem linkingTells_holds : Rows.LinkingTellsSaid :=
  OpenClaim.holds_of_wide 3 Try.f3 rfl rfl rfl rfl rfl rfl rfl ⟨rfl, rfl, rfl, rfl, rfl⟩ rfl rfl rfl rfl rfl linkingTells_named Try.func3 linkingTells_closed linkingTells_inst linkingTells_wrap
    (fun os started H enc _ => linkingTells_lifted os started H enc)
#print axioms linkingTells_holds
end Go.Proofs.Ytkopbcehfbmnmaa
