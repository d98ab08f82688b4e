/- The law GftwoExact: the homology is 0 if in is made of all sums of rows of out that vanish. No condition. -/
import Derived.Test.YtlgiponfcmeiiaaFrame0
import Derived.Test.YtlgiponfcmeiiaaExactW
namespace Go.Proofs.Ytlgiponfcmeiiaa
open Go Go.RowKit Go.ChangeShapes Go.WideShapes Go.ChangeAt Go.Joins
theorem gftwoExact_k0 : (Rows.gftwoExactRow.wf (OpenSpec.ofChange Rows.gftwoExactSpec)) = true := by kernel_rfl
theorem gftwoExact_k3 : (Try.f7.params.all (Try.prog.readableRec ·)) = true := by kernel_rfl
theorem gftwoExact_k4 : (namedTie Try.prog Rows.gftwoExactRow.named Rows.gftwoExactSpec.vars) = true := by kernel_rfl
theorem gftwoExact_k5 : (Rows.gftwoExactRow.stops == []) = true := by kernel_rfl
theorem gftwoExact_k7 : (Rows.gftwoExactRow.knobs == []) = true := by kernel_rfl
theorem gftwoExact_k9 : (Rows.gftwoExactRow.inPlace == Try.prog.inPlace 7) = true := by kernel_rfl
theorem gftwoExact_k10 : (Rows.gftwoExactRow.unfollowed == Try.prog.unfollowed 7) = true := by kernel_rfl
theorem gftwoExact_k11 : (Rows.gftwoExactRow.recurses == Try.prog.recurses 7) = true := by kernel_rfl
theorem gftwoExact_k12 : (Rows.gftwoExactRow.named == Try.prog.varsNamed 7) = true := by kernel_rfl
theorem gftwoExact_k13 : (Rows.gftwoExactRow.maps == (Try.f7.params.toList ++ Rows.gftwoExactSpec.plain.varTypes Try.prog).any (Try.prog.mapsRec ·)) = true := by kernel_rfl
theorem gftwoExact_k14 : (Rows.gftwoExactRow.ifaces == (Try.f7.params.toList ++ Rows.gftwoExactSpec.plain.varTypes Try.prog).any (Try.prog.ifacesRec ·)) = true := by kernel_rfl
theorem gftwoExact_k15 : (Rows.gftwoExactRow.mapsOut == Try.prog.mapsAmong Try.f7.resultTypes.toList) = true := by kernel_rfl
theorem gftwoExact_k16 : (Rows.gftwoExactRow.loops == (Try.f7.params.toList ++ Rows.gftwoExactSpec.plain.varTypes Try.prog).any (Try.prog.loopsFrom ·)) = true := by kernel_rfl
theorem gftwoExact_k17 : (Rows.gftwoExactRow.wideKeys == (Try.f7.params.toList ++ Rows.gftwoExactSpec.plain.varTypes Try.prog ++ Try.f7.resultTypes.toList).any (Try.prog.wideKeysFrom ·)) = true := by kernel_rfl
theorem gftwoExact_k18 : (Rows.gftwoExactSpec.vars.all (Try.prog.varReadable ·)) = true := by kernel_rfl
theorem gftwoExact_k19 : (Try.f7.resultTypes.all (fun t => Try.prog.readableRec t && decide (t < Try.prog.types.size))) = true := by kernel_rfl
theorem gftwoExact_k20 : (Rows.gftwoExactRow.ifacesOut == Try.f7.resultTypes.toList.any (Try.prog.ifacesRec ·)) = true := by kernel_rfl
theorem gftwoExact_k21 : (Rows.gftwoExactRow.loopsOut == Try.f7.resultTypes.toList.any (Try.prog.loopsFrom ·)) = true := by kernel_rfl
theorem gftwoExact_k22 : (Rows.gftwoExactRow.plainKeys == Try.prog.plainKeys) = true := by rw [prog_keys]; rfl
theorem gftwoExact_k23 : (Rows.gftwoExactRow.shortTexts.isNone) = true := by kernel_rfl
theorem gftwoExact_k26 : (Rows.gftwoExactRow.lifted == Try.prog.liftsFinal) = true := by rw [prog_final]; rfl
theorem gftwoExact_k27 : (Try.prog.make == some Rows.gftwoExactRow.make) = true := by rw [prog_make]; rfl
theorem gftwoExact_k28 : (Rows.gftwoExactRow.kinds == (if Rows.gftwoExactRow.domain.isEmpty then [] else Try.f7.params.toList.map fun t => match Try.prog.underlying t with | some (.int k) => some k | _ => none)) = true := by kernel_rfl
theorem gftwoExact_k29 : (Rows.gftwoExactRow.pinned == Rows.gftwoExactRow.pinnedBy) = true := by kernel_rfl
theorem gftwoExact_k30 : (Rows.gftwoExactRow.veiled == (Try.f7.params.toList ++ Rows.gftwoExactSpec.plain.varTypes Try.prog ++ Try.f7.resultTypes.toList).any (Try.prog.veiledRec ·)) = true := by kernel_rfl
theorem gftwoExact_k31 : (Rows.gftwoExactRow.veiledFits Try.prog Try.f7.params.toList (Try.f7.params.toList ++ Rows.gftwoExactSpec.plain.varTypes Try.prog ++ Try.f7.resultTypes.toList)) = true := by kernel_rfl
set_option maxRecDepth 100000 in
theorem gftwoExact_closed : joinedFacts Try.prog 7 Try.f7 Rows.gftwoExactSpec Rows.gftwoExactRow = true := (and2 (and2 (and2 (and2 (and2 (and2 (and2 (and2 (and2 (and2 (and2 (and2 (and2 (and2 (and2 (and2 (and2 (and2 (and2 (and2 (and2 (and2 (and2 (and2 (and2 (and2 (and2 (and2 (and2 (and2 (and2 gftwoExact_k0 laidOut) prog_maps) gftwoExact_k3) gftwoExact_k4) gftwoExact_k5) prog_stops) gftwoExact_k7) prog_knobs) gftwoExact_k9) gftwoExact_k10) gftwoExact_k11) gftwoExact_k12) gftwoExact_k13) gftwoExact_k14) gftwoExact_k15) gftwoExact_k16) gftwoExact_k17) gftwoExact_k18) gftwoExact_k19) gftwoExact_k20) gftwoExact_k21) gftwoExact_k22) gftwoExact_k23) prog_heard) prog_enter) gftwoExact_k26) gftwoExact_k27) gftwoExact_k28) gftwoExact_k29) gftwoExact_k30) gftwoExact_k31)
theorem gftwoExact_named : Try.prog.funcNamed Rows.gftwoExactRow.func = some 7 := by kernel_rfl
theorem gftwoExact_inst : Try.f7.isInstance Try.prog Rows.gftwoExactRow.origin Rows.gftwoExactRow.targs := of_decide_eq_true (by kernel_rfl)
theorem gftwoExact_wrap : Try.f7.isWrapper Try.prog Rows.gftwoExactRow.wrapper Rows.gftwoExactRow.mainSum := by unfold Func.isWrapper; first | (rw [if_pos (by decide +kernel)]; kernel_rfl) | (rw [if_neg (by decide +kernel)]; exact ⟨rfl, rfl⟩)
set_option maxRecDepth 100000 in
theorem gftwoExact_lifted (os : Os) (started : os.Started) (H : Type) (enc : TypeId × Value → H) :
    ReturnsInHanded {} Try.checked os 7 .any (Rows.gftwoExactSpec.pre6 enc Try.prog Try.f7 Rows.gftwoExactRow.domain false) (Rows.gftwoExactSpec.post enc Try.prog Try.f7 false true false false) := by
  refine returnsInHanded_of_change (C := Try.checked) own started (by kernel_rfl) Try.func7
    (ChangeSpec.witness6 (enc := enc) (C := Try.checked) false ⟨#[], #[.int .i64 0, .slice none 0 0], []⟩ 8 (by kernel_rfl) (by kernel_rfl) (by kernel_rfl) (by kernel_rfl)) ?_
  intro W base args ds gs before hval0 hW hcnd _
  have hval : ∀ (j : Nat) t v, Try.f7.params[j]? = some t → args[j]? = some v → Value.okWide Try.prog W .any base t v := hval0
  have hW' := hW
  obtain ⟨p, q, hA0, hV, rfl, hfz, hnd⟩ := hW
  have hA : DataW.TrodAll enc Try.prog W 0 (fun _ => true) true Try.f7.params.toList args.toList ds p := hA0
  rw [Try.params7] at hA hval
  obtain ⟨v0, vs0, d0, ds0, p0, q0, hargs, rfl, rfl, h0, r0⟩ := trodAll_cons hA
  obtain ⟨v1, vs1, d1, ds1, p1, q1, rfl, rfl, rfl, h1, r1⟩ := trodAll_cons r0
  obtain ⟨rfl, rfl, rfl⟩ := trodAll_nil r1
  obtain rfl : args = #[v0, v1] := by cases args; simp_all
  obtain ⟨rfl, rfl⟩ := trodVars_none hV
  obtain ⟨i0, rfl, rfl, rfl, w0⟩ := open_int Try.underlying3 (hval 0 3 v0 rfl rfl) h0
  obtain ⟨T1, aT1, cT1, rfl, hT1, lT1, lR1, lC1⟩ := open_tab (hval 1 22 v1 rfl rfl) h1
  have k1 := h1
  have lt1 : ∀ x ∈ p1, x.block < W.heap.size := by obtain ⟨m, hm⟩ := k1; exact DataW.trod_lt m _ _ _ hm
  clear hA0 hval0
  refine (exact_any i0 T1 aT1 cT1 W w0 hT1).mono fun e W' ⟨he, bel⟩ => ?_
  subst he
  exact ⟨_, rfl, _, _, _, [], _, [], hW', trodAll_mk1 (shut_bool Try.underlying4 _), (trodAll_cons_mk (shut_int Try.underlying3 w0) (trodAll_cons_mk (Below.trod laidOut (by kernel_rfl) (of_decide_eq_true (by kernel_rfl)) k1 bel lt1) trodAll_mk0)), rfl, bel.frame _, fun h => by cases h⟩
theorem gftwoExact_holds : Rows.GftwoExactSaid :=
  OpenClaim.holds_of_wide 7 Try.f7 rfl rfl rfl rfl rfl rfl rfl ⟨rfl, rfl, rfl, rfl, rfl⟩ rfl rfl rfl rfl rfl gftwoExact_named Try.func7 gftwoExact_closed gftwoExact_inst gftwoExact_wrap
    (fun os started H enc _ => gftwoExact_lifted os started H enc)
#print axioms gftwoExact_holds
end Go.Proofs.Ytlgiponfcmeiiaa
