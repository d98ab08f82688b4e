/- ConnectAlternates: a diagram alternates just if passages over and under alternate along each strand: the law returns true for every input. -/
import Derived.Test.YtmjoijfafachhaaFrame0
import Derived.Test.YtmjoijfafachhaaLAlt
namespace Go.Proofs.Ytmjoijfafachhaa
open Go Go.RowKit Go.ChangeShapes Go.WideShapes Go.ChangeAt Go.Joins
theorem connectAlternates_k0 : (Rows.connectAlternatesRow.wf (OpenSpec.ofChange Rows.connectAlternatesSpec)) = true := by kernel_rfl
theorem connectAlternates_k3 : (Try.f10.params.all (Try.prog.readableRec ·)) = true := by kernel_rfl
theorem connectAlternates_k4 : (namedTie Try.prog Rows.connectAlternatesRow.named Rows.connectAlternatesSpec.vars) = true := by kernel_rfl
theorem connectAlternates_k5 : (Rows.connectAlternatesRow.stops == []) = true := by kernel_rfl
theorem connectAlternates_k7 : (Rows.connectAlternatesRow.knobs == []) = true := by kernel_rfl
theorem connectAlternates_k9 : (Rows.connectAlternatesRow.inPlace == Try.prog.inPlace 10) = true := by kernel_rfl
theorem connectAlternates_k10 : (Rows.connectAlternatesRow.unfollowed == Try.prog.unfollowed 10) = true := by kernel_rfl
theorem connectAlternates_k11 : (Rows.connectAlternatesRow.recurses == Try.prog.recurses 10) = true := by kernel_rfl
theorem connectAlternates_k12 : (Rows.connectAlternatesRow.named == Try.prog.varsNamed 10) = true := by kernel_rfl
theorem connectAlternates_k13 : (Rows.connectAlternatesRow.maps == (Try.f10.params.toList ++ Rows.connectAlternatesSpec.plain.varTypes Try.prog).any (Try.prog.mapsRec ·)) = true := by kernel_rfl
theorem connectAlternates_k14 : (Rows.connectAlternatesRow.ifaces == (Try.f10.params.toList ++ Rows.connectAlternatesSpec.plain.varTypes Try.prog).any (Try.prog.ifacesRec ·)) = true := by kernel_rfl
theorem connectAlternates_k15 : (Rows.connectAlternatesRow.mapsOut == Try.prog.mapsAmong Try.f10.resultTypes.toList) = true := by kernel_rfl
theorem connectAlternates_k16 : (Rows.connectAlternatesRow.loops == (Try.f10.params.toList ++ Rows.connectAlternatesSpec.plain.varTypes Try.prog).any (Try.prog.loopsFrom ·)) = true := by kernel_rfl
theorem connectAlternates_k17 : (Rows.connectAlternatesRow.wideKeys == (Try.f10.params.toList ++ Rows.connectAlternatesSpec.plain.varTypes Try.prog ++ Try.f10.resultTypes.toList).any (Try.prog.wideKeysFrom ·)) = true := by kernel_rfl
theorem connectAlternates_k18 : (Rows.connectAlternatesSpec.vars.all (Try.prog.varReadable ·)) = true := by kernel_rfl
theorem connectAlternates_k19 : (Try.f10.resultTypes.all (fun t => Try.prog.readableRec t && decide (t < Try.prog.types.size))) = true := by kernel_rfl
theorem connectAlternates_k20 : (Rows.connectAlternatesRow.ifacesOut == Try.f10.resultTypes.toList.any (Try.prog.ifacesRec ·)) = true := by kernel_rfl
theorem connectAlternates_k21 : (Rows.connectAlternatesRow.loopsOut == Try.f10.resultTypes.toList.any (Try.prog.loopsFrom ·)) = true := by kernel_rfl
theorem connectAlternates_k22 : (Rows.connectAlternatesRow.plainKeys == Try.prog.plainKeys) = true := by rw [prog_keys]; rfl
theorem connectAlternates_k23 : (Rows.connectAlternatesRow.shortTexts.isNone) = true := by kernel_rfl
theorem connectAlternates_k26 : (Rows.connectAlternatesRow.lifted == Try.prog.liftsFinal) = true := by rw [prog_final]; rfl
theorem connectAlternates_k27 : (Try.prog.make == some Rows.connectAlternatesRow.make) = true := by rw [prog_make]; rfl
theorem connectAlternates_k28 : (Rows.connectAlternatesRow.kinds == (if Rows.connectAlternatesRow.domain.isEmpty then [] else Try.f10.params.toList.map fun t => match Try.prog.underlying t with | some (.int k) => some k | _ => none)) = true := by kernel_rfl
theorem connectAlternates_k29 : (Rows.connectAlternatesRow.pinned == Rows.connectAlternatesRow.pinnedBy) = true := by kernel_rfl
theorem connectAlternates_k30 : (Rows.connectAlternatesRow.veiled == (Try.f10.params.toList ++ Rows.connectAlternatesSpec.plain.varTypes Try.prog ++ Try.f10.resultTypes.toList).any (Try.prog.veiledRec ·)) = true := by kernel_rfl
theorem connectAlternates_k31 : (Rows.connectAlternatesRow.veiledFits Try.prog Try.f10.params.toList (Try.f10.params.toList ++ Rows.connectAlternatesSpec.plain.varTypes Try.prog ++ Try.f10.resultTypes.toList)) = true := by kernel_rfl
set_option maxRecDepth 100000 in
theorem connectAlternates_closed : joinedFacts Try.prog 10 Try.f10 Rows.connectAlternatesSpec Rows.connectAlternatesRow = true := (and2 (and2 (and2 (and2 (and2 (and2 (and2 (and2 (and2 (and2 (and2 (and2 (and2 (and2 (and2 (and2 (and2 (and2 (and2 (and2 (and2 (and2 (and2 (and2 (and2 (and2 (and2 (and2 (and2 (and2 (and2 connectAlternates_k0 laidOut) prog_maps) connectAlternates_k3) connectAlternates_k4) connectAlternates_k5) prog_stops) connectAlternates_k7) prog_knobs) connectAlternates_k9) connectAlternates_k10) connectAlternates_k11) connectAlternates_k12) connectAlternates_k13) connectAlternates_k14) connectAlternates_k15) connectAlternates_k16) connectAlternates_k17) connectAlternates_k18) connectAlternates_k19) connectAlternates_k20) connectAlternates_k21) connectAlternates_k22) connectAlternates_k23) prog_heard) prog_enter) connectAlternates_k26) connectAlternates_k27) connectAlternates_k28) connectAlternates_k29) connectAlternates_k30) connectAlternates_k31)
theorem connectAlternates_named : Try.prog.funcNamed Rows.connectAlternatesRow.func = some 10 := by kernel_rfl
theorem connectAlternates_inst : Try.f10.isInstance Try.prog Rows.connectAlternatesRow.origin Rows.connectAlternatesRow.targs := of_decide_eq_true (by kernel_rfl)
theorem connectAlternates_wrap : Try.f10.isWrapper Try.prog Rows.connectAlternatesRow.wrapper Rows.connectAlternatesRow.mainSum := by unfold Func.isWrapper; first | (rw [if_pos (by decide +kernel)]; kernel_rfl) | (rw [if_neg (by decide +kernel)]; exact ⟨rfl, rfl⟩)
set_option maxRecDepth 100000 in
theorem connectAlternates_lifted (os : Os) (started : os.Started) (H : Type) (enc : TypeId × Value → H) :
    ReturnsInHanded {} Try.checked os 10 .any (Rows.connectAlternatesSpec.pre6 enc Try.prog Try.f10 Rows.connectAlternatesRow.domain false) (Rows.connectAlternatesSpec.post enc Try.prog Try.f10 false true false false) := by
  refine returnsInHanded_of_change (C := Try.checked) own started (by kernel_rfl) Try.func10
    (ChangeSpec.witness6 (enc := enc) (C := Try.checked) false ⟨#[], #[.agg #[.slice none 0 0, .slice none 0 0, .int .i64 0]], []⟩ 8 (by kernel_rfl) (by kernel_rfl) (by kernel_rfl) (by kernel_rfl)) ?_
  intro W base args ds gs before hval0 hW hcnd _
  have hval : ∀ (j : Nat) t v, Try.f10.params[j]? = some t → args[j]? = some v → Value.okWide Try.prog W .any base t v := hval0
  have hW' := hW
  obtain ⟨p, q, hA0, hV, rfl, hfz, hnd⟩ := hW
  have hA : DataW.TrodAll enc Try.prog W 0 (fun _ => true) true Try.f10.params.toList args.toList ds p := hA0
  rw [Try.params10] at hA hval
  obtain ⟨v0, vs0, d0, ds0, p0, q0, hargs, rfl, rfl, h0, r0⟩ := trodAll_cons hA
  obtain ⟨rfl, rfl, rfl⟩ := trodAll_nil r0
  obtain rfl : args = #[v0] := by cases args; simp_all
  obtain ⟨rfl, rfl⟩ := trodVars_none hV
  obtain ⟨S0, M0, L0, aS0, aM0, cS0, cM0, rfl, hS0, hM0, lS0, lM0, wL0⟩ := open_diag (hval 0 24 v0 rfl rfl) h0
  have k0 := h0
  have lt0 : ∀ x ∈ p0, x.block < W.heap.size := by obtain ⟨m, hm⟩ := k0; exact DataW.trod_lt m _ _ _ hm
  clear hA0 hval0
  refine (lalt_any S0 M0 L0 aS0 aM0 cS0 cM0 W lS0 lM0 wL0 hS0 hM0).mono fun e W' ⟨he, bel⟩ => ?_
  subst he
  exact ⟨_, rfl, _, _, _, [], _, [], hW', trodAll_mk1 (shut_bool Try.underlying4 _), (trodAll_cons_mk (Below.trod laidOut (by kernel_rfl) (of_decide_eq_true (by kernel_rfl)) k0 bel lt0) trodAll_mk0), rfl, bel.frame _, fun h => by cases h⟩
theorem connectAlternates_holds : Rows.ConnectAlternatesSaid :=
  OpenClaim.holds_of_wide 10 Try.f10 rfl rfl rfl rfl rfl rfl rfl ⟨rfl, rfl, rfl, rfl, rfl⟩ rfl rfl rfl rfl rfl connectAlternates_named Try.func10 connectAlternates_closed connectAlternates_inst connectAlternates_wrap
    (fun os started H enc _ => connectAlternates_lifted os started H enc)
#print axioms connectAlternates_holds
end Go.Proofs.Ytmjoijfafachhaa
