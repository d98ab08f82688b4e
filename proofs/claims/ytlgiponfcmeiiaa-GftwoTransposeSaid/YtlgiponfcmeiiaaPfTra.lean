/- The law GftwoTranspose: Transpose exchanges rows and columns, is its own inverse, keeps the rank, and reverses products; what is refused is refused. -/
import Derived.Test.YtlgiponfcmeiiaaFrame0
import Derived.Test.YtlgiponfcmeiiaaLTraZ
namespace Go.Proofs.Ytlgiponfcmeiiaa
open Go Go.RowKit Go.ChangeShapes Go.WideShapes Go.ChangeAt Go.Joins
theorem gftwoTranspose_k0 : (Rows.gftwoTransposeRow.wf (OpenSpec.ofChange Rows.gftwoTransposeSpec)) = true := by kernel_rfl
theorem gftwoTranspose_k3 : (Try.f9.params.all (Try.prog.readableRec ·)) = true := by kernel_rfl
theorem gftwoTranspose_k4 : (namedTie Try.prog Rows.gftwoTransposeRow.named Rows.gftwoTransposeSpec.vars) = true := by kernel_rfl
theorem gftwoTranspose_k5 : (Rows.gftwoTransposeRow.stops == []) = true := by kernel_rfl
theorem gftwoTranspose_k7 : (Rows.gftwoTransposeRow.knobs == []) = true := by kernel_rfl
theorem gftwoTranspose_k9 : (Rows.gftwoTransposeRow.inPlace == Try.prog.inPlace 9) = true := by kernel_rfl
theorem gftwoTranspose_k10 : (Rows.gftwoTransposeRow.unfollowed == Try.prog.unfollowed 9) = true := by kernel_rfl
theorem gftwoTranspose_k11 : (Rows.gftwoTransposeRow.recurses == Try.prog.recurses 9) = true := by kernel_rfl
theorem gftwoTranspose_k12 : (Rows.gftwoTransposeRow.named == Try.prog.varsNamed 9) = true := by kernel_rfl
theorem gftwoTranspose_k13 : (Rows.gftwoTransposeRow.maps == (Try.f9.params.toList ++ Rows.gftwoTransposeSpec.plain.varTypes Try.prog).any (Try.prog.mapsRec ·)) = true := by kernel_rfl
theorem gftwoTranspose_k14 : (Rows.gftwoTransposeRow.ifaces == (Try.f9.params.toList ++ Rows.gftwoTransposeSpec.plain.varTypes Try.prog).any (Try.prog.ifacesRec ·)) = true := by kernel_rfl
theorem gftwoTranspose_k15 : (Rows.gftwoTransposeRow.mapsOut == Try.prog.mapsAmong Try.f9.resultTypes.toList) = true := by kernel_rfl
theorem gftwoTranspose_k16 : (Rows.gftwoTransposeRow.loops == (Try.f9.params.toList ++ Rows.gftwoTransposeSpec.plain.varTypes Try.prog).any (Try.prog.loopsFrom ·)) = true := by kernel_rfl
theorem gftwoTranspose_k17 : (Rows.gftwoTransposeRow.wideKeys == (Try.f9.params.toList ++ Rows.gftwoTransposeSpec.plain.varTypes Try.prog ++ Try.f9.resultTypes.toList).any (Try.prog.wideKeysFrom ·)) = true := by kernel_rfl
theorem gftwoTranspose_k18 : (Rows.gftwoTransposeSpec.vars.all (Try.prog.varReadable ·)) = true := by kernel_rfl
theorem gftwoTranspose_k19 : (Try.f9.resultTypes.all (fun t => Try.prog.readableRec t && decide (t < Try.prog.types.size))) = true := by kernel_rfl
theorem gftwoTranspose_k20 : (Rows.gftwoTransposeRow.ifacesOut == Try.f9.resultTypes.toList.any (Try.prog.ifacesRec ·)) = true := by kernel_rfl
theorem gftwoTranspose_k21 : (Rows.gftwoTransposeRow.loopsOut == Try.f9.resultTypes.toList.any (Try.prog.loopsFrom ·)) = true := by kernel_rfl
theorem gftwoTranspose_k22 : (Rows.gftwoTransposeRow.plainKeys == Try.prog.plainKeys) = true := by rw [prog_keys]; rfl
theorem gftwoTranspose_k23 : (Rows.gftwoTransposeRow.shortTexts.isNone) = true := by kernel_rfl
theorem gftwoTranspose_k26 : (Rows.gftwoTransposeRow.lifted == Try.prog.liftsFinal) = true := by rw [prog_final]; rfl
theorem gftwoTranspose_k27 : (Try.prog.make == some Rows.gftwoTransposeRow.make) = true := by rw [prog_make]; rfl
theorem gftwoTranspose_k28 : (Rows.gftwoTransposeRow.kinds == (if Rows.gftwoTransposeRow.domain.isEmpty then [] else Try.f9.params.toList.map fun t => match Try.prog.underlying t with | some (.int k) => some k | _ => none)) = true := by kernel_rfl
theorem gftwoTranspose_k29 : (Rows.gftwoTransposeRow.pinned == Rows.gftwoTransposeRow.pinnedBy) = true := by kernel_rfl
theorem gftwoTranspose_k30 : (Rows.gftwoTransposeRow.veiled == (Try.f9.params.toList ++ Rows.gftwoTransposeSpec.plain.varTypes Try.prog ++ Try.f9.resultTypes.toList).any (Try.prog.veiledRec ·)) = true := by kernel_rfl
theorem gftwoTranspose_k31 : (Rows.gftwoTransposeRow.veiledFits Try.prog Try.f9.params.toList (Try.f9.params.toList ++ Rows.gftwoTransposeSpec.plain.varTypes Try.prog ++ Try.f9.resultTypes.toList)) = true := by kernel_rfl
set_option maxRecDepth 100000 in
theorem gftwoTranspose_closed : joinedFacts Try.prog 9 Try.f9 Rows.gftwoTransposeSpec Rows.gftwoTransposeRow = true := (and2 (and2 (and2 (and2 (and2 (and2 (and2 (and2 (and2 (and2 (and2 (and2 (and2 (and2 (and2 (and2 (and2 (and2 (and2 (and2 (and2 (and2 (and2 (and2 (and2 (and2 (and2 (and2 (and2 (and2 (and2 gftwoTranspose_k0 laidOut) prog_maps) gftwoTranspose_k3) gftwoTranspose_k4) gftwoTranspose_k5) prog_stops) gftwoTranspose_k7) prog_knobs) gftwoTranspose_k9) gftwoTranspose_k10) gftwoTranspose_k11) gftwoTranspose_k12) gftwoTranspose_k13) gftwoTranspose_k14) gftwoTranspose_k15) gftwoTranspose_k16) gftwoTranspose_k17) gftwoTranspose_k18) gftwoTranspose_k19) gftwoTranspose_k20) gftwoTranspose_k21) gftwoTranspose_k22) gftwoTranspose_k23) prog_heard) prog_enter) gftwoTranspose_k26) gftwoTranspose_k27) gftwoTranspose_k28) gftwoTranspose_k29) gftwoTranspose_k30) gftwoTranspose_k31)
theorem gftwoTranspose_named : Try.prog.funcNamed Rows.gftwoTransposeRow.func = some 9 := by kernel_rfl
theorem gftwoTranspose_inst : Try.f9.isInstance Try.prog Rows.gftwoTransposeRow.origin Rows.gftwoTransposeRow.targs := of_decide_eq_true (by kernel_rfl)
theorem gftwoTranspose_wrap : Try.f9.isWrapper Try.prog Rows.gftwoTransposeRow.wrapper Rows.gftwoTransposeRow.mainSum := by unfold Func.isWrapper; first | (rw [if_pos (by decide +kernel)]; kernel_rfl) | (rw [if_neg (by decide +kernel)]; exact ⟨rfl, rfl⟩)
set_option maxRecDepth 100000 in
theorem gftwoTranspose_lifted (os : Os) (started : os.Started) (H : Type) (enc : TypeId × Value → H) :
    ReturnsInHanded {} Try.checked os 9 .any (Rows.gftwoTransposeSpec.pre6 enc Try.prog Try.f9 Rows.gftwoTransposeRow.domain false) (Rows.gftwoTransposeSpec.post enc Try.prog Try.f9 false true false false) := by
  refine returnsInHanded_of_change (C := Try.checked) own started (by kernel_rfl) Try.func9
    (ChangeSpec.witness6 (enc := enc) (C := Try.checked) false ⟨#[], #[.int .i64 0, .slice none 0 0, .int .i64 0, .slice none 0 0], []⟩ 8 (by kernel_rfl) (by kernel_rfl) (by kernel_rfl) (by kernel_rfl)) ?_
  intro W base args ds gs before hval0 hW hcnd _
  have hval : ∀ (j : Nat) t v, Try.f9.params[j]? = some t → args[j]? = some v → Value.okWide Try.prog W .any base t v := hval0
  have hW' := hW
  obtain ⟨p, q, hA0, hV, rfl, hfz, hnd⟩ := hW
  have hA : DataW.TrodAll enc Try.prog W 0 (fun _ => true) true Try.f9.params.toList args.toList ds p := hA0
  rw [Try.params9] at hA hval
  obtain ⟨v0, vs0, d0, ds0, p0, q0, hargs, rfl, rfl, h0, r0⟩ := trodAll_cons hA
  obtain ⟨v1, vs1, d1, ds1, p1, q1, rfl, rfl, rfl, h1, r1⟩ := trodAll_cons r0
  obtain ⟨v2, vs2, d2, ds2, p2, q2, rfl, rfl, rfl, h2, r2⟩ := trodAll_cons r1
  obtain ⟨v3, vs3, d3, ds3, p3, q3, rfl, rfl, rfl, h3, r3⟩ := trodAll_cons r2
  obtain ⟨rfl, rfl, rfl⟩ := trodAll_nil r3
  obtain rfl : args = #[v0, v1, v2, v3] := by cases args; simp_all
  obtain ⟨rfl, rfl⟩ := trodVars_none hV
  obtain ⟨i0, rfl, rfl, rfl, w0⟩ := open_int Try.underlying3 (hval 0 3 v0 rfl rfl) h0
  obtain ⟨T1, aT1, cT1, rfl, hT1, lT1, lR1, lC1⟩ := open_tab (hval 1 22 v1 rfl rfl) h1
  have k1 := h1
  have lt1 : ∀ x ∈ p1, x.block < W.heap.size := by obtain ⟨m, hm⟩ := k1; exact DataW.trod_lt m _ _ _ hm
  obtain ⟨i2, rfl, rfl, rfl, w2⟩ := open_int Try.underlying3 (hval 2 3 v2 rfl rfl) h2
  obtain ⟨T3, aT3, cT3, rfl, hT3, lT3, lR3, lC3⟩ := open_tab (hval 3 22 v3 rfl rfl) h3
  have k3 := h3
  have lt3 : ∀ x ∈ p3, x.block < W.heap.size := by obtain ⟨m, hm⟩ := k3; exact DataW.trod_lt m _ _ _ hm
  clear hA0 hval0
  refine (ltra_any i0 T1 aT1 cT1 i2 T3 aT3 cT3 W w0 hT1 w2 hT3).mono fun e W' ⟨he, bel⟩ => ?_
  subst he
  exact ⟨_, rfl, _, _, _, [], _, [], hW', trodAll_mk1 (shut_bool Try.underlying4 _), (trodAll_cons_mk (shut_int Try.underlying3 w0) (trodAll_cons_mk (Below.trod laidOut (by kernel_rfl) (of_decide_eq_true (by kernel_rfl)) k1 bel lt1) (trodAll_cons_mk (shut_int Try.underlying3 w2) (trodAll_cons_mk (Below.trod laidOut (by kernel_rfl) (of_decide_eq_true (by kernel_rfl)) k3 bel lt3) trodAll_mk0)))), rfl, bel.frame _, fun h => by cases h⟩
theorem gftwoTranspose_holds : Rows.GftwoTransposeSaid :=
  OpenClaim.holds_of_wide 9 Try.f9 rfl rfl rfl rfl rfl rfl rfl ⟨rfl, rfl, rfl, rfl, rfl⟩ rfl rfl rfl rfl rfl gftwoTranspose_named Try.func9 gftwoTranspose_closed gftwoTranspose_inst gftwoTranspose_wrap
    (fun os started H enc _ => gftwoTranspose_lifted os started H enc)
#print axioms gftwoTranspose_holds
end Go.Proofs.Ytlgiponfcmeiiaa
