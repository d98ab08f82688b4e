/- The law GftwoMul: Mul returns the product that the reference reckons, or the error that is due; the rank of a product is at most that of each factor. -/
import Derived.Test.YtlgiponfcmeiiaaFrame0
import Derived.Test.YtlgiponfcmeiiaaLMulZ
namespace Go.Proofs.Ytlgiponfcmeiiaa
open Go Go.RowKit Go.ChangeShapes Go.WideShapes Go.ChangeAt Go.Joins
theorem gftwoMul_k0 : (Rows.gftwoMulRow.wf (OpenSpec.ofChange Rows.gftwoMulSpec)) = true := by kernel_rfl
theorem gftwoMul_k3 : (Try.f8.params.all (Try.prog.readableRec ·)) = true := by kernel_rfl
theorem gftwoMul_k4 : (namedTie Try.prog Rows.gftwoMulRow.named Rows.gftwoMulSpec.vars) = true := by kernel_rfl
theorem gftwoMul_k5 : (Rows.gftwoMulRow.stops == []) = true := by kernel_rfl
theorem gftwoMul_k7 : (Rows.gftwoMulRow.knobs == []) = true := by kernel_rfl
theorem gftwoMul_k9 : (Rows.gftwoMulRow.inPlace == Try.prog.inPlace 8) = true := by kernel_rfl
theorem gftwoMul_k10 : (Rows.gftwoMulRow.unfollowed == Try.prog.unfollowed 8) = true := by kernel_rfl
theorem gftwoMul_k11 : (Rows.gftwoMulRow.recurses == Try.prog.recurses 8) = true := by kernel_rfl
theorem gftwoMul_k12 : (Rows.gftwoMulRow.named == Try.prog.varsNamed 8) = true := by kernel_rfl
theorem gftwoMul_k13 : (Rows.gftwoMulRow.maps == (Try.f8.params.toList ++ Rows.gftwoMulSpec.plain.varTypes Try.prog).any (Try.prog.mapsRec ·)) = true := by kernel_rfl
theorem gftwoMul_k14 : (Rows.gftwoMulRow.ifaces == (Try.f8.params.toList ++ Rows.gftwoMulSpec.plain.varTypes Try.prog).any (Try.prog.ifacesRec ·)) = true := by kernel_rfl
theorem gftwoMul_k15 : (Rows.gftwoMulRow.mapsOut == Try.prog.mapsAmong Try.f8.resultTypes.toList) = true := by kernel_rfl
theorem gftwoMul_k16 : (Rows.gftwoMulRow.loops == (Try.f8.params.toList ++ Rows.gftwoMulSpec.plain.varTypes Try.prog).any (Try.prog.loopsFrom ·)) = true := by kernel_rfl
theorem gftwoMul_k17 : (Rows.gftwoMulRow.wideKeys == (Try.f8.params.toList ++ Rows.gftwoMulSpec.plain.varTypes Try.prog ++ Try.f8.resultTypes.toList).any (Try.prog.wideKeysFrom ·)) = true := by kernel_rfl
theorem gftwoMul_k18 : (Rows.gftwoMulSpec.vars.all (Try.prog.varReadable ·)) = true := by kernel_rfl
theorem gftwoMul_k19 : (Try.f8.resultTypes.all (fun t => Try.prog.readableRec t && decide (t < Try.prog.types.size))) = true := by kernel_rfl
theorem gftwoMul_k20 : (Rows.gftwoMulRow.ifacesOut == Try.f8.resultTypes.toList.any (Try.prog.ifacesRec ·)) = true := by kernel_rfl
theorem gftwoMul_k21 : (Rows.gftwoMulRow.loopsOut == Try.f8.resultTypes.toList.any (Try.prog.loopsFrom ·)) = true := by kernel_rfl
theorem gftwoMul_k22 : (Rows.gftwoMulRow.plainKeys == Try.prog.plainKeys) = true := by rw [prog_keys]; rfl
theorem gftwoMul_k23 : (Rows.gftwoMulRow.shortTexts.isNone) = true := by kernel_rfl
theorem gftwoMul_k26 : (Rows.gftwoMulRow.lifted == Try.prog.liftsFinal) = true := by rw [prog_final]; rfl
theorem gftwoMul_k27 : (Try.prog.make == some Rows.gftwoMulRow.make) = true := by rw [prog_make]; rfl
theorem gftwoMul_k28 : (Rows.gftwoMulRow.kinds == (if Rows.gftwoMulRow.domain.isEmpty then [] else Try.f8.params.toList.map fun t => match Try.prog.underlying t with | some (.int k) => some k | _ => none)) = true := by kernel_rfl
theorem gftwoMul_k29 : (Rows.gftwoMulRow.pinned == Rows.gftwoMulRow.pinnedBy) = true := by kernel_rfl
theorem gftwoMul_k30 : (Rows.gftwoMulRow.veiled == (Try.f8.params.toList ++ Rows.gftwoMulSpec.plain.varTypes Try.prog ++ Try.f8.resultTypes.toList).any (Try.prog.veiledRec ·)) = true := by kernel_rfl
theorem gftwoMul_k31 : (Rows.gftwoMulRow.veiledFits Try.prog Try.f8.params.toList (Try.f8.params.toList ++ Rows.gftwoMulSpec.plain.varTypes Try.prog ++ Try.f8.resultTypes.toList)) = true := by kernel_rfl
set_option maxRecDepth 100000 in
theorem gftwoMul_closed : joinedFacts Try.prog 8 Try.f8 Rows.gftwoMulSpec Rows.gftwoMulRow = true := (and2 (and2 (and2 (and2 (and2 (and2 (and2 (and2 (and2 (and2 (and2 (and2 (and2 (and2 (and2 (and2 (and2 (and2 (and2 (and2 (and2 (and2 (and2 (and2 (and2 (and2 (and2 (and2 (and2 (and2 (and2 gftwoMul_k0 laidOut) prog_maps) gftwoMul_k3) gftwoMul_k4) gftwoMul_k5) prog_stops) gftwoMul_k7) prog_knobs) gftwoMul_k9) gftwoMul_k10) gftwoMul_k11) gftwoMul_k12) gftwoMul_k13) gftwoMul_k14) gftwoMul_k15) gftwoMul_k16) gftwoMul_k17) gftwoMul_k18) gftwoMul_k19) gftwoMul_k20) gftwoMul_k21) gftwoMul_k22) gftwoMul_k23) prog_heard) prog_enter) gftwoMul_k26) gftwoMul_k27) gftwoMul_k28) gftwoMul_k29) gftwoMul_k30) gftwoMul_k31)
theorem gftwoMul_named : Try.prog.funcNamed Rows.gftwoMulRow.func = some 8 := by kernel_rfl
theorem gftwoMul_inst : Try.f8.isInstance Try.prog Rows.gftwoMulRow.origin Rows.gftwoMulRow.targs := of_decide_eq_true (by kernel_rfl)
theorem gftwoMul_wrap : Try.f8.isWrapper Try.prog Rows.gftwoMulRow.wrapper Rows.gftwoMulRow.mainSum := by unfold Func.isWrapper; first | (rw [if_pos (by decide +kernel)]; kernel_rfl) | (rw [if_neg (by decide +kernel)]; exact ⟨rfl, rfl⟩)
set_option maxRecDepth 100000 in
theorem gftwoMul_lifted (os : Os) (started : os.Started) (H : Type) (enc : TypeId × Value → H) :
    ReturnsInHanded {} Try.checked os 8 .any (Rows.gftwoMulSpec.pre6 enc Try.prog Try.f8 Rows.gftwoMulRow.domain false) (Rows.gftwoMulSpec.post enc Try.prog Try.f8 false true false false) := by
  refine returnsInHanded_of_change (C := Try.checked) own started (by kernel_rfl) Try.func8
    (ChangeSpec.witness6 (enc := enc) (C := Try.checked) false ⟨#[], #[.int .i64 0, .slice none 0 0, .int .i64 0, .slice none 0 0], []⟩ 8 (by kernel_rfl) (by kernel_rfl) (by kernel_rfl) (by kernel_rfl)) ?_
  intro W base args ds gs before hval0 hW hcnd _
  have hval : ∀ (j : Nat) t v, Try.f8.params[j]? = some t → args[j]? = some v → Value.okWide Try.prog W .any base t v := hval0
  have hW' := hW
  obtain ⟨p, q, hA0, hV, rfl, hfz, hnd⟩ := hW
  have hA : DataW.TrodAll enc Try.prog W 0 (fun _ => true) true Try.f8.params.toList args.toList ds p := hA0
  rw [Try.params8] at hA hval
  obtain ⟨v0, vs0, d0, ds0, p0, q0, hargs, rfl, rfl, h0, r0⟩ := trodAll_cons hA
  obtain ⟨v1, vs1, d1, ds1, p1, q1, rfl, rfl, rfl, h1, r1⟩ := trodAll_cons r0
  obtain ⟨v2, vs2, d2, ds2, p2, q2, rfl, rfl, rfl, h2, r2⟩ := trodAll_cons r1
  obtain ⟨v3, vs3, d3, ds3, p3, q3, rfl, rfl, rfl, h3, r3⟩ := trodAll_cons r2
  obtain ⟨rfl, rfl, rfl⟩ := trodAll_nil r3
  obtain rfl : args = #[v0, v1, v2, v3] := by cases args; simp_all
  obtain ⟨rfl, rfl⟩ := trodVars_none hV
  obtain ⟨i0, rfl, rfl, rfl, w0⟩ := open_int Try.underlying3 (hval 0 3 v0 rfl rfl) h0
  obtain ⟨T1, aT1, cT1, rfl, hT1, lT1, lR1, lC1⟩ := open_tab (hval 1 22 v1 rfl rfl) h1
  have k1 := h1
  have lt1 : ∀ x ∈ p1, x.block < W.heap.size := by obtain ⟨m, hm⟩ := k1; exact DataW.trod_lt m _ _ _ hm
  obtain ⟨i2, rfl, rfl, rfl, w2⟩ := open_int Try.underlying3 (hval 2 3 v2 rfl rfl) h2
  obtain ⟨T3, aT3, cT3, rfl, hT3, lT3, lR3, lC3⟩ := open_tab (hval 3 22 v3 rfl rfl) h3
  have k3 := h3
  have lt3 : ∀ x ∈ p3, x.block < W.heap.size := by obtain ⟨m, hm⟩ := k3; exact DataW.trod_lt m _ _ _ hm
  clear hA0 hval0
  refine (lmul_any i0 T1 aT1 cT1 i2 T3 aT3 cT3 W w0 hT1 w2 hT3).mono fun e W' ⟨he, bel⟩ => ?_
  subst he
  exact ⟨_, rfl, _, _, _, [], _, [], hW', trodAll_mk1 (shut_bool Try.underlying4 _), (trodAll_cons_mk (shut_int Try.underlying3 w0) (trodAll_cons_mk (Below.trod laidOut (by kernel_rfl) (of_decide_eq_true (by kernel_rfl)) k1 bel lt1) (trodAll_cons_mk (shut_int Try.underlying3 w2) (trodAll_cons_mk (Below.trod laidOut (by kernel_rfl) (of_decide_eq_true (by kernel_rfl)) k3 bel lt3) trodAll_mk0)))), rfl, bel.frame _, fun h => by cases h⟩
theorem gftwoMul_holds : Rows.GftwoMulSaid :=
  OpenClaim.holds_of_wide 8 Try.f8 rfl rfl rfl rfl rfl rfl rfl ⟨rfl, rfl, rfl, rfl, rfl⟩ rfl rfl rfl rfl rfl gftwoMul_named Try.func8 gftwoMul_closed gftwoMul_inst gftwoMul_wrap
    (fun os started H enc _ => gftwoMul_lifted os started H enc)
#print axioms gftwoMul_holds
end Go.Proofs.Ytlgiponfcmeiiaa
