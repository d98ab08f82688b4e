/- LinkingShuffles: for every diagram and order the law returns true, and the arguments read afterwards as before. No condition. -/
import Derived.Test.YtkopbcehfbmnmaaFrame0
import Derived.Test.YtkopbcehfbmnmaaLShW
namespace Go.Proofs.Ytkopbcehfbmnmaa
open Go Go.RowKit Go.ChangeShapes Go.WideShapes Go.ChangeAt Go.Joins
theorem linkingShuffles_k0 : (Rows.linkingShufflesRow.wf (OpenSpec.ofChange Rows.linkingShufflesSpec)) = true := by kernel_rfl
theorem linkingShuffles_k3 : (Try.f6.params.all (Try.prog.readableRec ·)) = true := by kernel_rfl
theorem linkingShuffles_k4 : (namedTie Try.prog Rows.linkingShufflesRow.named Rows.linkingShufflesSpec.vars) = true := by kernel_rfl
theorem linkingShuffles_k5 : (Rows.linkingShufflesRow.stops == []) = true := by kernel_rfl
theorem linkingShuffles_k7 : (Rows.linkingShufflesRow.knobs == []) = true := by kernel_rfl
theorem linkingShuffles_k9 : (Rows.linkingShufflesRow.inPlace == Try.prog.inPlace 6) = true := by kernel_rfl
theorem linkingShuffles_k10 : (Rows.linkingShufflesRow.unfollowed == Try.prog.unfollowed 6) = true := by kernel_rfl
theorem linkingShuffles_k11 : (Rows.linkingShufflesRow.recurses == Try.prog.recurses 6) = true := by kernel_rfl
theorem linkingShuffles_k12 : (Rows.linkingShufflesRow.named == Try.prog.varsNamed 6) = true := by kernel_rfl
theorem linkingShuffles_k13 : (Rows.linkingShufflesRow.maps == (Try.f6.params.toList ++ Rows.linkingShufflesSpec.plain.varTypes Try.prog).any (Try.prog.mapsRec ·)) = true := by kernel_rfl
theorem linkingShuffles_k14 : (Rows.linkingShufflesRow.ifaces == (Try.f6.params.toList ++ Rows.linkingShufflesSpec.plain.varTypes Try.prog).any (Try.prog.ifacesRec ·)) = true := by kernel_rfl
theorem linkingShuffles_k15 : (Rows.linkingShufflesRow.mapsOut == Try.prog.mapsAmong Try.f6.resultTypes.toList) = true := by kernel_rfl
theorem linkingShuffles_k16 : (Rows.linkingShufflesRow.loops == (Try.f6.params.toList ++ Rows.linkingShufflesSpec.plain.varTypes Try.prog).any (Try.prog.loopsFrom ·)) = true := by kernel_rfl
theorem linkingShuffles_k17 : (Rows.linkingShufflesRow.wideKeys == (Try.f6.params.toList ++ Rows.linkingShufflesSpec.plain.varTypes Try.prog ++ Try.f6.resultTypes.toList).any (Try.prog.wideKeysFrom ·)) = true := by kernel_rfl
theorem linkingShuffles_k18 : (Rows.linkingShufflesSpec.vars.all (Try.prog.varReadable ·)) = true := by kernel_rfl
theorem linkingShuffles_k19 : (Try.f6.resultTypes.all (fun t => Try.prog.readableRec t && decide (t < Try.prog.types.size))) = true := by kernel_rfl
theorem linkingShuffles_k20 : (Rows.linkingShufflesRow.ifacesOut == Try.f6.resultTypes.toList.any (Try.prog.ifacesRec ·)) = true := by kernel_rfl
theorem linkingShuffles_k21 : (Rows.linkingShufflesRow.loopsOut == Try.f6.resultTypes.toList.any (Try.prog.loopsFrom ·)) = true := by kernel_rfl
theorem linkingShuffles_k22 : (Rows.linkingShufflesRow.plainKeys == Try.prog.plainKeys) = true := by rw [prog_keys]; rfl
theorem linkingShuffles_k23 : (Rows.linkingShufflesRow.shortTexts.isNone) = true := by kernel_rfl
theorem linkingShuffles_k26 : (Rows.linkingShufflesRow.lifted == Try.prog.liftsFinal) = true := by rw [prog_final]; rfl
theorem linkingShuffles_k27 : (Try.prog.make == some Rows.linkingShufflesRow.make) = true := by rw [prog_make]; rfl
theorem linkingShuffles_k28 : (Rows.linkingShufflesRow.kinds == (if Rows.linkingShufflesRow.domain.isEmpty then [] else Try.f6.params.toList.map fun t => match Try.prog.underlying t with | some (.int k) => some k | _ => none)) = true := by kernel_rfl
theorem linkingShuffles_k29 : (Rows.linkingShufflesRow.pinned == Rows.linkingShufflesRow.pinnedBy) = true := by kernel_rfl
theorem linkingShuffles_k30 : (Rows.linkingShufflesRow.veiled == (Try.f6.params.toList ++ Rows.linkingShufflesSpec.plain.varTypes Try.prog ++ Try.f6.resultTypes.toList).any (Try.prog.veiledRec ·)) = true := by kernel_rfl
theorem linkingShuffles_k31 : (Rows.linkingShufflesRow.veiledFits Try.prog Try.f6.params.toList (Try.f6.params.toList ++ Rows.linkingShufflesSpec.plain.varTypes Try.prog ++ Try.f6.resultTypes.toList)) = true := by kernel_rfl
set_option maxRecDepth 100000 in
theorem linkingShuffles_closed : joinedFacts Try.prog 6 Try.f6 Rows.linkingShufflesSpec Rows.linkingShufflesRow = true := (and2 (and2 (and2 (and2 (and2 (and2 (and2 (and2 (and2 (and2 (and2 (and2 (and2 (and2 (and2 (and2 (and2 (and2 (and2 (and2 (and2 (and2 (and2 (and2 (and2 (and2 (and2 (and2 (and2 (and2 (and2 linkingShuffles_k0 laidOut) prog_maps) linkingShuffles_k3) linkingShuffles_k4) linkingShuffles_k5) prog_stops) linkingShuffles_k7) prog_knobs) linkingShuffles_k9) linkingShuffles_k10) linkingShuffles_k11) linkingShuffles_k12) linkingShuffles_k13) linkingShuffles_k14) linkingShuffles_k15) linkingShuffles_k16) linkingShuffles_k17) linkingShuffles_k18) linkingShuffles_k19) linkingShuffles_k20) linkingShuffles_k21) linkingShuffles_k22) linkingShuffles_k23) prog_heard) prog_enter) linkingShuffles_k26) linkingShuffles_k27) linkingShuffles_k28) linkingShuffles_k29) linkingShuffles_k30) linkingShuffles_k31)
theorem linkingShuffles_named : Try.prog.funcNamed Rows.linkingShufflesRow.func = some 6 := by kernel_rfl
theorem linkingShuffles_inst : Try.f6.isInstance Try.prog Rows.linkingShufflesRow.origin Rows.linkingShufflesRow.targs := of_decide_eq_true (by kernel_rfl)
theorem linkingShuffles_wrap : Try.f6.isWrapper Try.prog Rows.linkingShufflesRow.wrapper Rows.linkingShufflesRow.mainSum := by unfold Func.isWrapper; first | (rw [if_pos (by decide +kernel)]; kernel_rfl) | (rw [if_neg (by decide +kernel)]; exact ⟨rfl, rfl⟩)
set_option maxRecDepth 100000 in
theorem linkingShuffles_lifted (os : Os) (started : os.Started) (H : Type) (enc : TypeId × Value → H) :
    ReturnsInHanded {} Try.checked os 6 .any (Rows.linkingShufflesSpec.pre6 enc Try.prog Try.f6 Rows.linkingShufflesRow.domain false) (Rows.linkingShufflesSpec.post enc Try.prog Try.f6 false true false false) := by
  refine returnsInHanded_of_change (C := Try.checked) own started (by kernel_rfl) Try.func6
    (ChangeSpec.witness6 (enc := enc) (C := Try.checked) false ⟨#[], #[.agg #[.slice none 0 0, .slice none 0 0, .int .i64 0], .slice none 0 0], []⟩ 8 (by kernel_rfl) (by kernel_rfl) (by kernel_rfl) (by kernel_rfl)) ?_
  intro W base args ds gs before hval0 hW hcnd _
  have hval : ∀ (j : Nat) t v, Try.f6.params[j]? = some t → args[j]? = some v → Value.okWide Try.prog W .any base t v := hval0
  have hW' := hW
  obtain ⟨p, q, hA0, hV, rfl, hfz, hnd⟩ := hW
  have hA : DataW.TrodAll enc Try.prog W 0 (fun _ => true) true Try.f6.params.toList args.toList ds p := hA0
  rw [Try.params6] at hA hval
  obtain ⟨v0, vs0, d0, ds0, p0, q0, hargs, rfl, rfl, h0, r0⟩ := trodAll_cons hA
  obtain ⟨v1, vs1, d1, ds1, p1, q1, rfl, rfl, rfl, h1, r1⟩ := trodAll_cons r0
  obtain ⟨rfl, rfl, rfl⟩ := trodAll_nil r1
  obtain rfl : args = #[v0, v1] := by cases args; simp_all
  obtain ⟨rfl, rfl⟩ := trodVars_none hV
  obtain ⟨S0, M0, L0, aS0, aM0, cS0, cM0, rfl, hS0, hM0, lS0, lM0, wL0⟩ := open_diag (hval 0 24 v0 rfl rfl) h0
  have k0 := h0
  have lt0 : ∀ x ∈ p0, x.block < W.heap.size := by obtain ⟨m, hm⟩ := k0; exact DataW.trod_lt m _ _ _ hm
  obtain ⟨X1, aX1, cX1, rfl, hX1, lX1⟩ := open_list (hval 1 22 v1 rfl rfl) h1
  have k1 := h1
  have lt1 : ∀ x ∈ p1, x.block < W.heap.size := by obtain ⟨m, hm⟩ := k1; exact DataW.trod_lt m _ _ _ hm
  clear hA0 hval0
  refine (lsh_any S0 M0 L0 aS0 aM0 cS0 cM0 X1 aX1 cX1 W lS0 lM0 wL0 hS0 hM0 lX1 hX1).mono fun e W' ⟨he, bel⟩ => ?_
  subst he
  exact ⟨_, rfl, _, _, _, [], _, [], hW', trodAll_mk1 (shut_bool Try.underlying4 _), (trodAll_cons_mk (Below.trod laidOut (by kernel_rfl) (of_decide_eq_true (by kernel_rfl)) k0 bel lt0) (trodAll_cons_mk (Below.trod laidOut (by kernel_rfl) (of_decide_eq_true (by kernel_rfl)) k1 bel lt1) trodAll_mk0)), rfl, bel.frame _, fun h => by cases h⟩
theorem linkingShuffles_holds : Rows.LinkingShufflesSaid :=
  OpenClaim.holds_of_wide 6 Try.f6 rfl rfl rfl rfl rfl rfl rfl ⟨rfl, rfl, rfl, rfl, rfl⟩ rfl rfl rfl rfl rfl linkingShuffles_named Try.func6 linkingShuffles_closed linkingShuffles_inst linkingShuffles_wrap
    (fun os started H enc _ => linkingShuffles_lifted os started H enc)
#print axioms linkingShuffles_holds
end Go.Proofs.Ytkopbcehfbmnmaa
