/- The law GftwoSpan: the number of different sums of rows is 2 to the power of the rank. No condition. -/
import Derived.Test.YtlgiponfcmeiiaaFrame0
import Derived.Test.YtlgiponfcmeiiaaSpanW
namespace Go.Proofs.Ytlgiponfcmeiiaa
open Go Go.RowKit Go.ChangeShapes Go.WideShapes Go.ChangeAt Go.Joins
theorem gftwoSpan_k0 : (Rows.gftwoSpanRow.wf (OpenSpec.ofChange Rows.gftwoSpanSpec)) = true := by kernel_rfl
theorem gftwoSpan_k3 : (Try.f5.params.all (Try.prog.readableRec ·)) = true := by kernel_rfl
theorem gftwoSpan_k4 : (namedTie Try.prog Rows.gftwoSpanRow.named Rows.gftwoSpanSpec.vars) = true := by kernel_rfl
theorem gftwoSpan_k5 : (Rows.gftwoSpanRow.stops == []) = true := by kernel_rfl
theorem gftwoSpan_k7 : (Rows.gftwoSpanRow.knobs == []) = true := by kernel_rfl
theorem gftwoSpan_k9 : (Rows.gftwoSpanRow.inPlace == Try.prog.inPlace 5) = true := by kernel_rfl
theorem gftwoSpan_k10 : (Rows.gftwoSpanRow.unfollowed == Try.prog.unfollowed 5) = true := by kernel_rfl
theorem gftwoSpan_k11 : (Rows.gftwoSpanRow.recurses == Try.prog.recurses 5) = true := by kernel_rfl
theorem gftwoSpan_k12 : (Rows.gftwoSpanRow.named == Try.prog.varsNamed 5) = true := by kernel_rfl
theorem gftwoSpan_k13 : (Rows.gftwoSpanRow.maps == (Try.f5.params.toList ++ Rows.gftwoSpanSpec.plain.varTypes Try.prog).any (Try.prog.mapsRec ·)) = true := by kernel_rfl
theorem gftwoSpan_k14 : (Rows.gftwoSpanRow.ifaces == (Try.f5.params.toList ++ Rows.gftwoSpanSpec.plain.varTypes Try.prog).any (Try.prog.ifacesRec ·)) = true := by kernel_rfl
theorem gftwoSpan_k15 : (Rows.gftwoSpanRow.mapsOut == Try.prog.mapsAmong Try.f5.resultTypes.toList) = true := by kernel_rfl
theorem gftwoSpan_k16 : (Rows.gftwoSpanRow.loops == (Try.f5.params.toList ++ Rows.gftwoSpanSpec.plain.varTypes Try.prog).any (Try.prog.loopsFrom ·)) = true := by kernel_rfl
theorem gftwoSpan_k17 : (Rows.gftwoSpanRow.wideKeys == (Try.f5.params.toList ++ Rows.gftwoSpanSpec.plain.varTypes Try.prog ++ Try.f5.resultTypes.toList).any (Try.prog.wideKeysFrom ·)) = true := by kernel_rfl
theorem gftwoSpan_k18 : (Rows.gftwoSpanSpec.vars.all (Try.prog.varReadable ·)) = true := by kernel_rfl
theorem gftwoSpan_k19 : (Try.f5.resultTypes.all (fun t => Try.prog.readableRec t && decide (t < Try.prog.types.size))) = true := by kernel_rfl
theorem gftwoSpan_k20 : (Rows.gftwoSpanRow.ifacesOut == Try.f5.resultTypes.toList.any (Try.prog.ifacesRec ·)) = true := by kernel_rfl
theorem gftwoSpan_k21 : (Rows.gftwoSpanRow.loopsOut == Try.f5.resultTypes.toList.any (Try.prog.loopsFrom ·)) = true := by kernel_rfl
theorem gftwoSpan_k22 : (Rows.gftwoSpanRow.plainKeys == Try.prog.plainKeys) = true := by rw [prog_keys]; rfl
theorem gftwoSpan_k23 : (Rows.gftwoSpanRow.shortTexts.isNone) = true := by kernel_rfl
theorem gftwoSpan_k26 : (Rows.gftwoSpanRow.lifted == Try.prog.liftsFinal) = true := by rw [prog_final]; rfl
theorem gftwoSpan_k27 : (Try.prog.make == some Rows.gftwoSpanRow.make) = true := by rw [prog_make]; rfl
theorem gftwoSpan_k28 : (Rows.gftwoSpanRow.kinds == (if Rows.gftwoSpanRow.domain.isEmpty then [] else Try.f5.params.toList.map fun t => match Try.prog.underlying t with | some (.int k) => some k | _ => none)) = true := by kernel_rfl
theorem gftwoSpan_k29 : (Rows.gftwoSpanRow.pinned == Rows.gftwoSpanRow.pinnedBy) = true := by kernel_rfl
theorem gftwoSpan_k30 : (Rows.gftwoSpanRow.veiled == (Try.f5.params.toList ++ Rows.gftwoSpanSpec.plain.varTypes Try.prog ++ Try.f5.resultTypes.toList).any (Try.prog.veiledRec ·)) = true := by kernel_rfl
theorem gftwoSpan_k31 : (Rows.gftwoSpanRow.veiledFits Try.prog Try.f5.params.toList (Try.f5.params.toList ++ Rows.gftwoSpanSpec.plain.varTypes Try.prog ++ Try.f5.resultTypes.toList)) = true := by kernel_rfl
set_option maxRecDepth 100000 in
theorem gftwoSpan_closed : joinedFacts Try.prog 5 Try.f5 Rows.gftwoSpanSpec Rows.gftwoSpanRow = true := (and2 (and2 (and2 (and2 (and2 (and2 (and2 (and2 (and2 (and2 (and2 (and2 (and2 (and2 (and2 (and2 (and2 (and2 (and2 (and2 (and2 (and2 (and2 (and2 (and2 (and2 (and2 (and2 (and2 (and2 (and2 gftwoSpan_k0 laidOut) prog_maps) gftwoSpan_k3) gftwoSpan_k4) gftwoSpan_k5) prog_stops) gftwoSpan_k7) prog_knobs) gftwoSpan_k9) gftwoSpan_k10) gftwoSpan_k11) gftwoSpan_k12) gftwoSpan_k13) gftwoSpan_k14) gftwoSpan_k15) gftwoSpan_k16) gftwoSpan_k17) gftwoSpan_k18) gftwoSpan_k19) gftwoSpan_k20) gftwoSpan_k21) gftwoSpan_k22) gftwoSpan_k23) prog_heard) prog_enter) gftwoSpan_k26) gftwoSpan_k27) gftwoSpan_k28) gftwoSpan_k29) gftwoSpan_k30) gftwoSpan_k31)
theorem gftwoSpan_named : Try.prog.funcNamed Rows.gftwoSpanRow.func = some 5 := by kernel_rfl
theorem gftwoSpan_inst : Try.f5.isInstance Try.prog Rows.gftwoSpanRow.origin Rows.gftwoSpanRow.targs := of_decide_eq_true (by kernel_rfl)
theorem gftwoSpan_wrap : Try.f5.isWrapper Try.prog Rows.gftwoSpanRow.wrapper Rows.gftwoSpanRow.mainSum := by unfold Func.isWrapper; first | (rw [if_pos (by decide +kernel)]; kernel_rfl) | (rw [if_neg (by decide +kernel)]; exact ⟨rfl, rfl⟩)
set_option maxRecDepth 100000 in
theorem gftwoSpan_lifted (os : Os) (started : os.Started) (H : Type) (enc : TypeId × Value → H) :
    ReturnsInHanded {} Try.checked os 5 .any (Rows.gftwoSpanSpec.pre6 enc Try.prog Try.f5 Rows.gftwoSpanRow.domain false) (Rows.gftwoSpanSpec.post enc Try.prog Try.f5 false true false false) := by
  refine returnsInHanded_of_change (C := Try.checked) own started (by kernel_rfl) Try.func5
    (ChangeSpec.witness6 (enc := enc) (C := Try.checked) false ⟨#[], #[.int .i64 0, .slice none 0 0], []⟩ 8 (by kernel_rfl) (by kernel_rfl) (by kernel_rfl) (by kernel_rfl)) ?_
  intro W base args ds gs before hval0 hW hcnd _
  have hval : ∀ (j : Nat) t v, Try.f5.params[j]? = some t → args[j]? = some v → Value.okWide Try.prog W .any base t v := hval0
  have hW' := hW
  obtain ⟨p, q, hA0, hV, rfl, hfz, hnd⟩ := hW
  have hA : DataW.TrodAll enc Try.prog W 0 (fun _ => true) true Try.f5.params.toList args.toList ds p := hA0
  rw [Try.params5] at hA hval
  obtain ⟨v0, vs0, d0, ds0, p0, q0, hargs, rfl, rfl, h0, r0⟩ := trodAll_cons hA
  obtain ⟨v1, vs1, d1, ds1, p1, q1, rfl, rfl, rfl, h1, r1⟩ := trodAll_cons r0
  obtain ⟨rfl, rfl, rfl⟩ := trodAll_nil r1
  obtain rfl : args = #[v0, v1] := by cases args; simp_all
  obtain ⟨rfl, rfl⟩ := trodVars_none hV
  obtain ⟨i0, rfl, rfl, rfl, w0⟩ := open_int Try.underlying3 (hval 0 3 v0 rfl rfl) h0
  obtain ⟨T1, aT1, cT1, rfl, hT1, lT1, lR1, lC1⟩ := open_tab (hval 1 22 v1 rfl rfl) h1
  have k1 := h1
  have lt1 : ∀ x ∈ p1, x.block < W.heap.size := by obtain ⟨m, hm⟩ := k1; exact DataW.trod_lt m _ _ _ hm
  clear hA0 hval0
  refine (span_any i0 T1 aT1 cT1 W w0 hT1).mono fun e W' ⟨he, bel⟩ => ?_
  subst he
  exact ⟨_, rfl, _, _, _, [], _, [], hW', trodAll_mk1 (shut_bool Try.underlying4 _), (trodAll_cons_mk (shut_int Try.underlying3 w0) (trodAll_cons_mk (Below.trod laidOut (by kernel_rfl) (of_decide_eq_true (by kernel_rfl)) k1 bel lt1) trodAll_mk0)), rfl, bel.frame _, fun h => by cases h⟩
theorem gftwoSpan_holds : Rows.GftwoSpanSaid :=
  OpenClaim.holds_of_wide 5 Try.f5 rfl rfl rfl rfl rfl rfl rfl ⟨rfl, rfl, rfl, rfl, rfl⟩ rfl rfl rfl rfl rfl gftwoSpan_named Try.func5 gftwoSpan_closed gftwoSpan_inst gftwoSpan_wrap
    (fun os started H enc _ => gftwoSpan_lifted os started H enc)
#print axioms gftwoSpan_holds
end Go.Proofs.Ytlgiponfcmeiiaa
