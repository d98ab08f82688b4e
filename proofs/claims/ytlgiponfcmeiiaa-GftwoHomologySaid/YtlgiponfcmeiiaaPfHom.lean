/- The law GftwoHomology: the dimension is that of the reference, never negative; what is refused is refused. -/
import Derived.Test.YtlgiponfcmeiiaaFrame0
import Derived.Test.YtlgiponfcmeiiaaLHomW
namespace Go.Proofs.Ytlgiponfcmeiiaa
open Go Go.RowKit Go.ChangeShapes Go.WideShapes Go.ChangeAt Go.Joins
theorem gftwoHomology_k0 : (Rows.gftwoHomologyRow.wf (OpenSpec.ofChange Rows.gftwoHomologySpec)) = true := by kernel_rfl
theorem gftwoHomology_k3 : (Try.f6.params.all (Try.prog.readableRec ·)) = true := by kernel_rfl
theorem gftwoHomology_k4 : (namedTie Try.prog Rows.gftwoHomologyRow.named Rows.gftwoHomologySpec.vars) = true := by kernel_rfl
theorem gftwoHomology_k5 : (Rows.gftwoHomologyRow.stops == []) = true := by kernel_rfl
theorem gftwoHomology_k7 : (Rows.gftwoHomologyRow.knobs == []) = true := by kernel_rfl
theorem gftwoHomology_k9 : (Rows.gftwoHomologyRow.inPlace == Try.prog.inPlace 6) = true := by kernel_rfl
theorem gftwoHomology_k10 : (Rows.gftwoHomologyRow.unfollowed == Try.prog.unfollowed 6) = true := by kernel_rfl
theorem gftwoHomology_k11 : (Rows.gftwoHomologyRow.recurses == Try.prog.recurses 6) = true := by kernel_rfl
theorem gftwoHomology_k12 : (Rows.gftwoHomologyRow.named == Try.prog.varsNamed 6) = true := by kernel_rfl
theorem gftwoHomology_k13 : (Rows.gftwoHomologyRow.maps == (Try.f6.params.toList ++ Rows.gftwoHomologySpec.plain.varTypes Try.prog).any (Try.prog.mapsRec ·)) = true := by kernel_rfl
theorem gftwoHomology_k14 : (Rows.gftwoHomologyRow.ifaces == (Try.f6.params.toList ++ Rows.gftwoHomologySpec.plain.varTypes Try.prog).any (Try.prog.ifacesRec ·)) = true := by kernel_rfl
theorem gftwoHomology_k15 : (Rows.gftwoHomologyRow.mapsOut == Try.prog.mapsAmong Try.f6.resultTypes.toList) = true := by kernel_rfl
theorem gftwoHomology_k16 : (Rows.gftwoHomologyRow.loops == (Try.f6.params.toList ++ Rows.gftwoHomologySpec.plain.varTypes Try.prog).any (Try.prog.loopsFrom ·)) = true := by kernel_rfl
theorem gftwoHomology_k17 : (Rows.gftwoHomologyRow.wideKeys == (Try.f6.params.toList ++ Rows.gftwoHomologySpec.plain.varTypes Try.prog ++ Try.f6.resultTypes.toList).any (Try.prog.wideKeysFrom ·)) = true := by kernel_rfl
theorem gftwoHomology_k18 : (Rows.gftwoHomologySpec.vars.all (Try.prog.varReadable ·)) = true := by kernel_rfl
theorem gftwoHomology_k19 : (Try.f6.resultTypes.all (fun t => Try.prog.readableRec t && decide (t < Try.prog.types.size))) = true := by kernel_rfl
theorem gftwoHomology_k20 : (Rows.gftwoHomologyRow.ifacesOut == Try.f6.resultTypes.toList.any (Try.prog.ifacesRec ·)) = true := by kernel_rfl
theorem gftwoHomology_k21 : (Rows.gftwoHomologyRow.loopsOut == Try.f6.resultTypes.toList.any (Try.prog.loopsFrom ·)) = true := by kernel_rfl
theorem gftwoHomology_k22 : (Rows.gftwoHomologyRow.plainKeys == Try.prog.plainKeys) = true := by rw [prog_keys]; rfl
theorem gftwoHomology_k23 : (Rows.gftwoHomologyRow.shortTexts.isNone) = true := by kernel_rfl
theorem gftwoHomology_k26 : (Rows.gftwoHomologyRow.lifted == Try.prog.liftsFinal) = true := by rw [prog_final]; rfl
theorem gftwoHomology_k27 : (Try.prog.make == some Rows.gftwoHomologyRow.make) = true := by rw [prog_make]; rfl
theorem gftwoHomology_k28 : (Rows.gftwoHomologyRow.kinds == (if Rows.gftwoHomologyRow.domain.isEmpty then [] else Try.f6.params.toList.map fun t => match Try.prog.underlying t with | some (.int k) => some k | _ => none)) = true := by kernel_rfl
theorem gftwoHomology_k29 : (Rows.gftwoHomologyRow.pinned == Rows.gftwoHomologyRow.pinnedBy) = true := by kernel_rfl
theorem gftwoHomology_k30 : (Rows.gftwoHomologyRow.veiled == (Try.f6.params.toList ++ Rows.gftwoHomologySpec.plain.varTypes Try.prog ++ Try.f6.resultTypes.toList).any (Try.prog.veiledRec ·)) = true := by kernel_rfl
theorem gftwoHomology_k31 : (Rows.gftwoHomologyRow.veiledFits Try.prog Try.f6.params.toList (Try.f6.params.toList ++ Rows.gftwoHomologySpec.plain.varTypes Try.prog ++ Try.f6.resultTypes.toList)) = true := by kernel_rfl
set_option maxRecDepth 100000 in
theorem gftwoHomology_closed : joinedFacts Try.prog 6 Try.f6 Rows.gftwoHomologySpec Rows.gftwoHomologyRow = true := (and2 (and2 (and2 (and2 (and2 (and2 (and2 (and2 (and2 (and2 (and2 (and2 (and2 (and2 (and2 (and2 (and2 (and2 (and2 (and2 (and2 (and2 (and2 (and2 (and2 (and2 (and2 (and2 (and2 (and2 (and2 gftwoHomology_k0 laidOut) prog_maps) gftwoHomology_k3) gftwoHomology_k4) gftwoHomology_k5) prog_stops) gftwoHomology_k7) prog_knobs) gftwoHomology_k9) gftwoHomology_k10) gftwoHomology_k11) gftwoHomology_k12) gftwoHomology_k13) gftwoHomology_k14) gftwoHomology_k15) gftwoHomology_k16) gftwoHomology_k17) gftwoHomology_k18) gftwoHomology_k19) gftwoHomology_k20) gftwoHomology_k21) gftwoHomology_k22) gftwoHomology_k23) prog_heard) prog_enter) gftwoHomology_k26) gftwoHomology_k27) gftwoHomology_k28) gftwoHomology_k29) gftwoHomology_k30) gftwoHomology_k31)
theorem gftwoHomology_named : Try.prog.funcNamed Rows.gftwoHomologyRow.func = some 6 := by kernel_rfl
theorem gftwoHomology_inst : Try.f6.isInstance Try.prog Rows.gftwoHomologyRow.origin Rows.gftwoHomologyRow.targs := of_decide_eq_true (by kernel_rfl)
theorem gftwoHomology_wrap : Try.f6.isWrapper Try.prog Rows.gftwoHomologyRow.wrapper Rows.gftwoHomologyRow.mainSum := by unfold Func.isWrapper; first | (rw [if_pos (by decide +kernel)]; kernel_rfl) | (rw [if_neg (by decide +kernel)]; exact ⟨rfl, rfl⟩)
set_option maxRecDepth 100000 in
theorem gftwoHomology_lifted (os : Os) (started : os.Started) (H : Type) (enc : TypeId × Value → H) :
    ReturnsInHanded {} Try.checked os 6 .any (Rows.gftwoHomologySpec.pre6 enc Try.prog Try.f6 Rows.gftwoHomologyRow.domain false) (Rows.gftwoHomologySpec.post enc Try.prog Try.f6 false true false false) := by
  refine returnsInHanded_of_change (C := Try.checked) own started (by kernel_rfl) Try.func6
    (ChangeSpec.witness6 (enc := enc) (C := Try.checked) false ⟨#[], #[.int .i64 0, .slice none 0 0, .int .i64 0, .slice none 0 0], []⟩ 8 (by kernel_rfl) (by kernel_rfl) (by kernel_rfl) (by kernel_rfl)) ?_
  intro W base args ds gs before hval0 hW hcnd _
  have hval : ∀ (j : Nat) t v, Try.f6.params[j]? = some t → args[j]? = some v → Value.okWide Try.prog W .any base t v := hval0
  have hW' := hW
  obtain ⟨p, q, hA0, hV, rfl, hfz, hnd⟩ := hW
  have hA : DataW.TrodAll enc Try.prog W 0 (fun _ => true) true Try.f6.params.toList args.toList ds p := hA0
  rw [Try.params6] at hA hval
  obtain ⟨v0, vs0, d0, ds0, p0, q0, hargs, rfl, rfl, h0, r0⟩ := trodAll_cons hA
  obtain ⟨v1, vs1, d1, ds1, p1, q1, rfl, rfl, rfl, h1, r1⟩ := trodAll_cons r0
  obtain ⟨v2, vs2, d2, ds2, p2, q2, rfl, rfl, rfl, h2, r2⟩ := trodAll_cons r1
  obtain ⟨v3, vs3, d3, ds3, p3, q3, rfl, rfl, rfl, h3, r3⟩ := trodAll_cons r2
  obtain ⟨rfl, rfl, rfl⟩ := trodAll_nil r3
  obtain rfl : args = #[v0, v1, v2, v3] := by cases args; simp_all
  obtain ⟨rfl, rfl⟩ := trodVars_none hV
  obtain ⟨i0, rfl, rfl, rfl, w0⟩ := open_int Try.underlying3 (hval 0 3 v0 rfl rfl) h0
  obtain ⟨T1, aT1, cT1, rfl, hT1, lT1, lR1, lC1⟩ := open_tab (hval 1 22 v1 rfl rfl) h1
  have k1 := h1
  have lt1 : ∀ x ∈ p1, x.block < W.heap.size := by obtain ⟨m, hm⟩ := k1; exact DataW.trod_lt m _ _ _ hm
  obtain ⟨i2, rfl, rfl, rfl, w2⟩ := open_int Try.underlying3 (hval 2 3 v2 rfl rfl) h2
  obtain ⟨T3, aT3, cT3, rfl, hT3, lT3, lR3, lC3⟩ := open_tab (hval 3 22 v3 rfl rfl) h3
  have k3 := h3
  have lt3 : ∀ x ∈ p3, x.block < W.heap.size := by obtain ⟨m, hm⟩ := k3; exact DataW.trod_lt m _ _ _ hm
  clear hA0 hval0
  refine (lhom_any i0 T1 aT1 cT1 i2 T3 aT3 cT3 W w0 hT1 w2 hT3).mono fun e W' ⟨he, bel⟩ => ?_
  subst he
  exact ⟨_, rfl, _, _, _, [], _, [], hW', trodAll_mk1 (shut_bool Try.underlying4 _), (trodAll_cons_mk (shut_int Try.underlying3 w0) (trodAll_cons_mk (Below.trod laidOut (by kernel_rfl) (of_decide_eq_true (by kernel_rfl)) k1 bel lt1) (trodAll_cons_mk (shut_int Try.underlying3 w2) (trodAll_cons_mk (Below.trod laidOut (by kernel_rfl) (of_decide_eq_true (by kernel_rfl)) k3 bel lt3) trodAll_mk0)))), rfl, bel.frame _, fun h => by cases h⟩
theorem gftwoHomology_holds : Rows.GftwoHomologySaid :=
  OpenClaim.holds_of_wide 6 Try.f6 rfl rfl rfl rfl rfl rfl rfl ⟨rfl, rfl, rfl, rfl, rfl⟩ rfl rfl rfl rfl rfl gftwoHomology_named Try.func6 gftwoHomology_closed gftwoHomology_inst gftwoHomology_wrap
    (fun os started H enc _ => gftwoHomology_lifted os started H enc)
#print axioms gftwoHomology_holds
end Go.Proofs.Ytlgiponfcmeiiaa
