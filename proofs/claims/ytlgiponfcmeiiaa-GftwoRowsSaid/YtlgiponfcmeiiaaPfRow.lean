/- The law GftwoRows: adding one row to another one, exchanging two rows, and a row appended twice leave the rank alone; a row with a new column adds one to it. -/
import Derived.Test.YtlgiponfcmeiiaaFrame0
import Derived.Test.YtlgiponfcmeiiaaLRowZ
namespace Go.Proofs.Ytlgiponfcmeiiaa
open Go Go.RowKit Go.ChangeShapes Go.WideShapes Go.ChangeAt Go.Joins
theorem gftwoRows_k0 : (Rows.gftwoRowsRow.wf (OpenSpec.ofChange Rows.gftwoRowsSpec)) = true := by kernel_rfl
theorem gftwoRows_k3 : (Try.f4.params.all (Try.prog.readableRec ·)) = true := by kernel_rfl
theorem gftwoRows_k4 : (namedTie Try.prog Rows.gftwoRowsRow.named Rows.gftwoRowsSpec.vars) = true := by kernel_rfl
theorem gftwoRows_k5 : (Rows.gftwoRowsRow.stops == []) = true := by kernel_rfl
theorem gftwoRows_k7 : (Rows.gftwoRowsRow.knobs == []) = true := by kernel_rfl
theorem gftwoRows_k9 : (Rows.gftwoRowsRow.inPlace == Try.prog.inPlace 4) = true := by kernel_rfl
theorem gftwoRows_k10 : (Rows.gftwoRowsRow.unfollowed == Try.prog.unfollowed 4) = true := by kernel_rfl
theorem gftwoRows_k11 : (Rows.gftwoRowsRow.recurses == Try.prog.recurses 4) = true := by kernel_rfl
theorem gftwoRows_k12 : (Rows.gftwoRowsRow.named == Try.prog.varsNamed 4) = true := by kernel_rfl
theorem gftwoRows_k13 : (Rows.gftwoRowsRow.maps == (Try.f4.params.toList ++ Rows.gftwoRowsSpec.plain.varTypes Try.prog).any (Try.prog.mapsRec ·)) = true := by kernel_rfl
theorem gftwoRows_k14 : (Rows.gftwoRowsRow.ifaces == (Try.f4.params.toList ++ Rows.gftwoRowsSpec.plain.varTypes Try.prog).any (Try.prog.ifacesRec ·)) = true := by kernel_rfl
theorem gftwoRows_k15 : (Rows.gftwoRowsRow.mapsOut == Try.prog.mapsAmong Try.f4.resultTypes.toList) = true := by kernel_rfl
theorem gftwoRows_k16 : (Rows.gftwoRowsRow.loops == (Try.f4.params.toList ++ Rows.gftwoRowsSpec.plain.varTypes Try.prog).any (Try.prog.loopsFrom ·)) = true := by kernel_rfl
theorem gftwoRows_k17 : (Rows.gftwoRowsRow.wideKeys == (Try.f4.params.toList ++ Rows.gftwoRowsSpec.plain.varTypes Try.prog ++ Try.f4.resultTypes.toList).any (Try.prog.wideKeysFrom ·)) = true := by kernel_rfl
theorem gftwoRows_k18 : (Rows.gftwoRowsSpec.vars.all (Try.prog.varReadable ·)) = true := by kernel_rfl
theorem gftwoRows_k19 : (Try.f4.resultTypes.all (fun t => Try.prog.readableRec t && decide (t < Try.prog.types.size))) = true := by kernel_rfl
theorem gftwoRows_k20 : (Rows.gftwoRowsRow.ifacesOut == Try.f4.resultTypes.toList.any (Try.prog.ifacesRec ·)) = true := by kernel_rfl
theorem gftwoRows_k21 : (Rows.gftwoRowsRow.loopsOut == Try.f4.resultTypes.toList.any (Try.prog.loopsFrom ·)) = true := by kernel_rfl
theorem gftwoRows_k22 : (Rows.gftwoRowsRow.plainKeys == Try.prog.plainKeys) = true := by rw [prog_keys]; rfl
theorem gftwoRows_k23 : (Rows.gftwoRowsRow.shortTexts.isNone) = true := by kernel_rfl
theorem gftwoRows_k26 : (Rows.gftwoRowsRow.lifted == Try.prog.liftsFinal) = true := by rw [prog_final]; rfl
theorem gftwoRows_k27 : (Try.prog.make == some Rows.gftwoRowsRow.make) = true := by rw [prog_make]; rfl
theorem gftwoRows_k28 : (Rows.gftwoRowsRow.kinds == (if Rows.gftwoRowsRow.domain.isEmpty then [] else Try.f4.params.toList.map fun t => match Try.prog.underlying t with | some (.int k) => some k | _ => none)) = true := by kernel_rfl
theorem gftwoRows_k29 : (Rows.gftwoRowsRow.pinned == Rows.gftwoRowsRow.pinnedBy) = true := by kernel_rfl
theorem gftwoRows_k30 : (Rows.gftwoRowsRow.veiled == (Try.f4.params.toList ++ Rows.gftwoRowsSpec.plain.varTypes Try.prog ++ Try.f4.resultTypes.toList).any (Try.prog.veiledRec ·)) = true := by kernel_rfl
theorem gftwoRows_k31 : (Rows.gftwoRowsRow.veiledFits Try.prog Try.f4.params.toList (Try.f4.params.toList ++ Rows.gftwoRowsSpec.plain.varTypes Try.prog ++ Try.f4.resultTypes.toList)) = true := by kernel_rfl
set_option maxRecDepth 100000 in
theorem gftwoRows_closed : joinedFacts Try.prog 4 Try.f4 Rows.gftwoRowsSpec Rows.gftwoRowsRow = true := (and2 (and2 (and2 (and2 (and2 (and2 (and2 (and2 (and2 (and2 (and2 (and2 (and2 (and2 (and2 (and2 (and2 (and2 (and2 (and2 (and2 (and2 (and2 (and2 (and2 (and2 (and2 (and2 (and2 (and2 (and2 gftwoRows_k0 laidOut) prog_maps) gftwoRows_k3) gftwoRows_k4) gftwoRows_k5) prog_stops) gftwoRows_k7) prog_knobs) gftwoRows_k9) gftwoRows_k10) gftwoRows_k11) gftwoRows_k12) gftwoRows_k13) gftwoRows_k14) gftwoRows_k15) gftwoRows_k16) gftwoRows_k17) gftwoRows_k18) gftwoRows_k19) gftwoRows_k20) gftwoRows_k21) gftwoRows_k22) gftwoRows_k23) prog_heard) prog_enter) gftwoRows_k26) gftwoRows_k27) gftwoRows_k28) gftwoRows_k29) gftwoRows_k30) gftwoRows_k31)
theorem gftwoRows_named : Try.prog.funcNamed Rows.gftwoRowsRow.func = some 4 := by kernel_rfl
theorem gftwoRows_inst : Try.f4.isInstance Try.prog Rows.gftwoRowsRow.origin Rows.gftwoRowsRow.targs := of_decide_eq_true (by kernel_rfl)
theorem gftwoRows_wrap : Try.f4.isWrapper Try.prog Rows.gftwoRowsRow.wrapper Rows.gftwoRowsRow.mainSum := by unfold Func.isWrapper; first | (rw [if_pos (by decide +kernel)]; kernel_rfl) | (rw [if_neg (by decide +kernel)]; exact ⟨rfl, rfl⟩)
set_option maxRecDepth 100000 in
theorem gftwoRows_lifted (os : Os) (started : os.Started) (H : Type) (enc : TypeId × Value → H) :
    ReturnsInHanded {} Try.checked os 4 .any (Rows.gftwoRowsSpec.pre6 enc Try.prog Try.f4 Rows.gftwoRowsRow.domain false) (Rows.gftwoRowsSpec.post enc Try.prog Try.f4 false true false false) := by
  refine returnsInHanded_of_change (C := Try.checked) own started (by kernel_rfl) Try.func4
    (ChangeSpec.witness6 (enc := enc) (C := Try.checked) false ⟨#[], #[.int .i64 0, .slice none 0 0, .int .u8 0, .int .u8 0], []⟩ 8 (by kernel_rfl) (by kernel_rfl) (by kernel_rfl) (by kernel_rfl)) ?_
  intro W base args ds gs before hval0 hW hcnd _
  have hval : ∀ (j : Nat) t v, Try.f4.params[j]? = some t → args[j]? = some v → Value.okWide Try.prog W .any base t v := hval0
  have hW' := hW
  obtain ⟨p, q, hA0, hV, rfl, hfz, hnd⟩ := hW
  have hA : DataW.TrodAll enc Try.prog W 0 (fun _ => true) true Try.f4.params.toList args.toList ds p := hA0
  rw [Try.params4] at hA hval
  obtain ⟨v0, vs0, d0, ds0, p0, q0, hargs, rfl, rfl, h0, r0⟩ := trodAll_cons hA
  obtain ⟨v1, vs1, d1, ds1, p1, q1, rfl, rfl, rfl, h1, r1⟩ := trodAll_cons r0
  obtain ⟨v2, vs2, d2, ds2, p2, q2, rfl, rfl, rfl, h2, r2⟩ := trodAll_cons r1
  obtain ⟨v3, vs3, d3, ds3, p3, q3, rfl, rfl, rfl, h3, r3⟩ := trodAll_cons r2
  obtain ⟨rfl, rfl, rfl⟩ := trodAll_nil r3
  obtain rfl : args = #[v0, v1, v2, v3] := by cases args; simp_all
  obtain ⟨rfl, rfl⟩ := trodVars_none hV
  obtain ⟨i0, rfl, rfl, rfl, w0⟩ := open_int Try.underlying3 (hval 0 3 v0 rfl rfl) h0
  obtain ⟨T1, aT1, cT1, rfl, hT1, lT1, lR1, lC1⟩ := open_tab (hval 1 22 v1 rfl rfl) h1
  have k1 := h1
  have lt1 : ∀ x ∈ p1, x.block < W.heap.size := by obtain ⟨m, hm⟩ := k1; exact DataW.trod_lt m _ _ _ hm
  obtain ⟨i2, rfl, rfl, rfl, w2⟩ := open_int Try.underlying5 (hval 2 5 v2 rfl rfl) h2
  obtain ⟨i3, rfl, rfl, rfl, w3⟩ := open_int Try.underlying5 (hval 3 5 v3 rfl rfl) h3
  clear hA0 hval0
  refine (lrow_any i0 T1 aT1 cT1 i2 i3 W w0 hT1 w2 w3).mono fun e W' ⟨he, bel⟩ => ?_
  subst he
  exact ⟨_, rfl, _, _, _, [], _, [], hW', trodAll_mk1 (shut_bool Try.underlying4 _), (trodAll_cons_mk (shut_int Try.underlying3 w0) (trodAll_cons_mk (Below.trod laidOut (by kernel_rfl) (of_decide_eq_true (by kernel_rfl)) k1 bel lt1) (trodAll_cons_mk (shut_int Try.underlying5 w2) (trodAll_cons_mk (shut_int Try.underlying5 w3) trodAll_mk0)))), rfl, bel.frame _, fun h => by cases h⟩
theorem gftwoRows_holds : Rows.GftwoRowsSaid :=
  OpenClaim.holds_of_wide 4 Try.f4 rfl rfl rfl rfl rfl rfl rfl ⟨rfl, rfl, rfl, rfl, rfl⟩ rfl rfl rfl rfl rfl gftwoRows_named Try.func4 gftwoRows_closed gftwoRows_inst gftwoRows_wrap
    (fun os started H enc _ => gftwoRows_lifted os started H enc)
#print axioms gftwoRows_holds
end Go.Proofs.Ytlgiponfcmeiiaa
