/- The law GftwoValues: the arguments are left as they were, and matrices with too many columns, or negative ones, are refused. -/
import Derived.Test.YtlgiponfcmeiiaaFrame0
import Derived.Test.YtlgiponfcmeiiaaLVal
namespace Go.Proofs.Ytlgiponfcmeiiaa
open Go Go.RowKit Go.ChangeShapes Go.WideShapes Go.ChangeAt Go.Joins
theorem gftwoValues_k0 : (Rows.gftwoValuesRow.wf (OpenSpec.ofChange Rows.gftwoValuesSpec)) = true := by kernel_rfl
theorem gftwoValues_k3 : (Try.f10.params.all (Try.prog.readableRec ·)) = true := by kernel_rfl
theorem gftwoValues_k4 : (namedTie Try.prog Rows.gftwoValuesRow.named Rows.gftwoValuesSpec.vars) = true := by kernel_rfl
theorem gftwoValues_k5 : (Rows.gftwoValuesRow.stops == []) = true := by kernel_rfl
theorem gftwoValues_k7 : (Rows.gftwoValuesRow.knobs == []) = true := by kernel_rfl
theorem gftwoValues_k9 : (Rows.gftwoValuesRow.inPlace == Try.prog.inPlace 10) = true := by kernel_rfl
theorem gftwoValues_k10 : (Rows.gftwoValuesRow.unfollowed == Try.prog.unfollowed 10) = true := by kernel_rfl
theorem gftwoValues_k11 : (Rows.gftwoValuesRow.recurses == Try.prog.recurses 10) = true := by kernel_rfl
theorem gftwoValues_k12 : (Rows.gftwoValuesRow.named == Try.prog.varsNamed 10) = true := by kernel_rfl
theorem gftwoValues_k13 : (Rows.gftwoValuesRow.maps == (Try.f10.params.toList ++ Rows.gftwoValuesSpec.plain.varTypes Try.prog).any (Try.prog.mapsRec ·)) = true := by kernel_rfl
theorem gftwoValues_k14 : (Rows.gftwoValuesRow.ifaces == (Try.f10.params.toList ++ Rows.gftwoValuesSpec.plain.varTypes Try.prog).any (Try.prog.ifacesRec ·)) = true := by kernel_rfl
theorem gftwoValues_k15 : (Rows.gftwoValuesRow.mapsOut == Try.prog.mapsAmong Try.f10.resultTypes.toList) = true := by kernel_rfl
theorem gftwoValues_k16 : (Rows.gftwoValuesRow.loops == (Try.f10.params.toList ++ Rows.gftwoValuesSpec.plain.varTypes Try.prog).any (Try.prog.loopsFrom ·)) = true := by kernel_rfl
theorem gftwoValues_k17 : (Rows.gftwoValuesRow.wideKeys == (Try.f10.params.toList ++ Rows.gftwoValuesSpec.plain.varTypes Try.prog ++ Try.f10.resultTypes.toList).any (Try.prog.wideKeysFrom ·)) = true := by kernel_rfl
theorem gftwoValues_k18 : (Rows.gftwoValuesSpec.vars.all (Try.prog.varReadable ·)) = true := by kernel_rfl
theorem gftwoValues_k19 : (Try.f10.resultTypes.all (fun t => Try.prog.readableRec t && decide (t < Try.prog.types.size))) = true := by kernel_rfl
theorem gftwoValues_k20 : (Rows.gftwoValuesRow.ifacesOut == Try.f10.resultTypes.toList.any (Try.prog.ifacesRec ·)) = true := by kernel_rfl
theorem gftwoValues_k21 : (Rows.gftwoValuesRow.loopsOut == Try.f10.resultTypes.toList.any (Try.prog.loopsFrom ·)) = true := by kernel_rfl
theorem gftwoValues_k22 : (Rows.gftwoValuesRow.plainKeys == Try.prog.plainKeys) = true := by rw [prog_keys]; rfl
theorem gftwoValues_k23 : (Rows.gftwoValuesRow.shortTexts.isNone) = true := by kernel_rfl
theorem gftwoValues_k26 : (Rows.gftwoValuesRow.lifted == Try.prog.liftsFinal) = true := by rw [prog_final]; rfl
theorem gftwoValues_k27 : (Try.prog.make == some Rows.gftwoValuesRow.make) = true := by rw [prog_make]; rfl
theorem gftwoValues_k28 : (Rows.gftwoValuesRow.kinds == (if Rows.gftwoValuesRow.domain.isEmpty then [] else Try.f10.params.toList.map fun t => match Try.prog.underlying t with | some (.int k) => some k | _ => none)) = true := by kernel_rfl
theorem gftwoValues_k29 : (Rows.gftwoValuesRow.pinned == Rows.gftwoValuesRow.pinnedBy) = true := by kernel_rfl
theorem gftwoValues_k30 : (Rows.gftwoValuesRow.veiled == (Try.f10.params.toList ++ Rows.gftwoValuesSpec.plain.varTypes Try.prog ++ Try.f10.resultTypes.toList).any (Try.prog.veiledRec ·)) = true := by kernel_rfl
theorem gftwoValues_k31 : (Rows.gftwoValuesRow.veiledFits Try.prog Try.f10.params.toList (Try.f10.params.toList ++ Rows.gftwoValuesSpec.plain.varTypes Try.prog ++ Try.f10.resultTypes.toList)) = true := by kernel_rfl
set_option maxRecDepth 100000 in
theorem gftwoValues_closed : joinedFacts Try.prog 10 Try.f10 Rows.gftwoValuesSpec Rows.gftwoValuesRow = true := (and2 (and2 (and2 (and2 (and2 (and2 (and2 (and2 (and2 (and2 (and2 (and2 (and2 (and2 (and2 (and2 (and2 (and2 (and2 (and2 (and2 (and2 (and2 (and2 (and2 (and2 (and2 (and2 (and2 (and2 (and2 gftwoValues_k0 laidOut) prog_maps) gftwoValues_k3) gftwoValues_k4) gftwoValues_k5) prog_stops) gftwoValues_k7) prog_knobs) gftwoValues_k9) gftwoValues_k10) gftwoValues_k11) gftwoValues_k12) gftwoValues_k13) gftwoValues_k14) gftwoValues_k15) gftwoValues_k16) gftwoValues_k17) gftwoValues_k18) gftwoValues_k19) gftwoValues_k20) gftwoValues_k21) gftwoValues_k22) gftwoValues_k23) prog_heard) prog_enter) gftwoValues_k26) gftwoValues_k27) gftwoValues_k28) gftwoValues_k29) gftwoValues_k30) gftwoValues_k31)
theorem gftwoValues_named : Try.prog.funcNamed Rows.gftwoValuesRow.func = some 10 := by kernel_rfl
theorem gftwoValues_inst : Try.f10.isInstance Try.prog Rows.gftwoValuesRow.origin Rows.gftwoValuesRow.targs := of_decide_eq_true (by kernel_rfl)
theorem gftwoValues_wrap : Try.f10.isWrapper Try.prog Rows.gftwoValuesRow.wrapper Rows.gftwoValuesRow.mainSum := by unfold Func.isWrapper; first | (rw [if_pos (by decide +kernel)]; kernel_rfl) | (rw [if_neg (by decide +kernel)]; exact ⟨rfl, rfl⟩)
set_option maxRecDepth 100000 in
theorem gftwoValues_lifted (os : Os) (started : os.Started) (H : Type) (enc : TypeId × Value → H) :
    ReturnsInHanded {} Try.checked os 10 .any (Rows.gftwoValuesSpec.pre6 enc Try.prog Try.f10 Rows.gftwoValuesRow.domain false) (Rows.gftwoValuesSpec.post enc Try.prog Try.f10 false true false false) := by
  refine returnsInHanded_of_change (C := Try.checked) own started (by kernel_rfl) Try.func10
    (ChangeSpec.witness6 (enc := enc) (C := Try.checked) false ⟨#[], #[.int .i64 0, .slice none 0 0], []⟩ 8 (by kernel_rfl) (by kernel_rfl) (by kernel_rfl) (by kernel_rfl)) ?_
  intro W base args ds gs before hval0 hW hcnd _
  have hval : ∀ (j : Nat) t v, Try.f10.params[j]? = some t → args[j]? = some v → Value.okWide Try.prog W .any base t v := hval0
  have hW' := hW
  obtain ⟨p, q, hA0, hV, rfl, hfz, hnd⟩ := hW
  have hA : DataW.TrodAll enc Try.prog W 0 (fun _ => true) true Try.f10.params.toList args.toList ds p := hA0
  rw [Try.params10] at hA hval
  obtain ⟨v0, vs0, d0, ds0, p0, q0, hargs, rfl, rfl, h0, r0⟩ := trodAll_cons hA
  obtain ⟨v1, vs1, d1, ds1, p1, q1, rfl, rfl, rfl, h1, r1⟩ := trodAll_cons r0
  obtain ⟨rfl, rfl, rfl⟩ := trodAll_nil r1
  obtain rfl : args = #[v0, v1] := by cases args; simp_all
  obtain ⟨rfl, rfl⟩ := trodVars_none hV
  obtain ⟨i0, rfl, rfl, rfl, w0⟩ := open_int Try.underlying3 (hval 0 3 v0 rfl rfl) h0
  obtain ⟨T1, aT1, cT1, rfl, hT1, lT1, lR1, lC1⟩ := open_tab (hval 1 22 v1 rfl rfl) h1
  have k1 := h1
  have lt1 : ∀ x ∈ p1, x.block < W.heap.size := by obtain ⟨m, hm⟩ := k1; exact DataW.trod_lt m _ _ _ hm
  clear hA0 hval0
  refine (lval_any i0 T1 aT1 cT1 W w0 hT1).mono fun e W' ⟨he, bel⟩ => ?_
  subst he
  exact ⟨_, rfl, _, _, _, [], _, [], hW', trodAll_mk1 (shut_bool Try.underlying4 _), (trodAll_cons_mk (shut_int Try.underlying3 w0) (trodAll_cons_mk (Below.trod laidOut (by kernel_rfl) (of_decide_eq_true (by kernel_rfl)) k1 bel lt1) trodAll_mk0)), rfl, bel.frame _, fun h => by cases h⟩
theorem gftwoValues_holds : Rows.GftwoValuesSaid :=
  OpenClaim.holds_of_wide 10 Try.f10 rfl rfl rfl rfl rfl rfl rfl ⟨rfl, rfl, rfl, rfl, rfl⟩ rfl rfl rfl rfl rfl gftwoValues_named Try.func10 gftwoValues_closed gftwoValues_inst gftwoValues_wrap
    (fun os started H enc _ => gftwoValues_lifted os started H enc)
#print axioms gftwoValues_holds
end Go.Proofs.Ytlgiponfcmeiiaa
