/- The law GftwoRank: the rank is that of the reference; what is refused is refused. -/
import Derived.Test.YtlgiponfcmeiiaaFrame0
import Derived.Test.YtlgiponfcmeiiaaLRankW
namespace Go.Proofs.Ytlgiponfcmeiiaa
open Go Go.RowKit Go.ChangeShapes Go.WideShapes Go.ChangeAt Go.Joins
theorem gftwoRank_k0 : (Rows.gftwoRankRow.wf (OpenSpec.ofChange Rows.gftwoRankSpec)) = true := by kernel_rfl
theorem gftwoRank_k3 : (Try.f3.params.all (Try.prog.readableRec ·)) = true := by kernel_rfl
theorem gftwoRank_k4 : (namedTie Try.prog Rows.gftwoRankRow.named Rows.gftwoRankSpec.vars) = true := by kernel_rfl
theorem gftwoRank_k5 : (Rows.gftwoRankRow.stops == []) = true := by kernel_rfl
theorem gftwoRank_k7 : (Rows.gftwoRankRow.knobs == []) = true := by kernel_rfl
theorem gftwoRank_k9 : (Rows.gftwoRankRow.inPlace == Try.prog.inPlace 3) = true := by kernel_rfl
theorem gftwoRank_k10 : (Rows.gftwoRankRow.unfollowed == Try.prog.unfollowed 3) = true := by kernel_rfl
theorem gftwoRank_k11 : (Rows.gftwoRankRow.recurses == Try.prog.recurses 3) = true := by kernel_rfl
theorem gftwoRank_k12 : (Rows.gftwoRankRow.named == Try.prog.varsNamed 3) = true := by kernel_rfl
theorem gftwoRank_k13 : (Rows.gftwoRankRow.maps == (Try.f3.params.toList ++ Rows.gftwoRankSpec.plain.varTypes Try.prog).any (Try.prog.mapsRec ·)) = true := by kernel_rfl
theorem gftwoRank_k14 : (Rows.gftwoRankRow.ifaces == (Try.f3.params.toList ++ Rows.gftwoRankSpec.plain.varTypes Try.prog).any (Try.prog.ifacesRec ·)) = true := by kernel_rfl
theorem gftwoRank_k15 : (Rows.gftwoRankRow.mapsOut == Try.prog.mapsAmong Try.f3.resultTypes.toList) = true := by kernel_rfl
theorem gftwoRank_k16 : (Rows.gftwoRankRow.loops == (Try.f3.params.toList ++ Rows.gftwoRankSpec.plain.varTypes Try.prog).any (Try.prog.loopsFrom ·)) = true := by kernel_rfl
theorem gftwoRank_k17 : (Rows.gftwoRankRow.wideKeys == (Try.f3.params.toList ++ Rows.gftwoRankSpec.plain.varTypes Try.prog ++ Try.f3.resultTypes.toList).any (Try.prog.wideKeysFrom ·)) = true := by kernel_rfl
theorem gftwoRank_k18 : (Rows.gftwoRankSpec.vars.all (Try.prog.varReadable ·)) = true := by kernel_rfl
theorem gftwoRank_k19 : (Try.f3.resultTypes.all (fun t => Try.prog.readableRec t && decide (t < Try.prog.types.size))) = true := by kernel_rfl
theorem gftwoRank_k20 : (Rows.gftwoRankRow.ifacesOut == Try.f3.resultTypes.toList.any (Try.prog.ifacesRec ·)) = true := by kernel_rfl
theorem gftwoRank_k21 : (Rows.gftwoRankRow.loopsOut == Try.f3.resultTypes.toList.any (Try.prog.loopsFrom ·)) = true := by kernel_rfl
theorem gftwoRank_k22 : (Rows.gftwoRankRow.plainKeys == Try.prog.plainKeys) = true := by rw [prog_keys]; rfl
theorem gftwoRank_k23 : (Rows.gftwoRankRow.shortTexts.isNone) = true := by kernel_rfl
theorem gftwoRank_k26 : (Rows.gftwoRankRow.lifted == Try.prog.liftsFinal) = true := by rw [prog_final]; rfl
theorem gftwoRank_k27 : (Try.prog.make == some Rows.gftwoRankRow.make) = true := by rw [prog_make]; rfl
theorem gftwoRank_k28 : (Rows.gftwoRankRow.kinds == (if Rows.gftwoRankRow.domain.isEmpty then [] else Try.f3.params.toList.map fun t => match Try.prog.underlying t with | some (.int k) => some k | _ => none)) = true := by kernel_rfl
theorem gftwoRank_k29 : (Rows.gftwoRankRow.pinned == Rows.gftwoRankRow.pinnedBy) = true := by kernel_rfl
theorem gftwoRank_k30 : (Rows.gftwoRankRow.veiled == (Try.f3.params.toList ++ Rows.gftwoRankSpec.plain.varTypes Try.prog ++ Try.f3.resultTypes.toList).any (Try.prog.veiledRec ·)) = true := by kernel_rfl
theorem gftwoRank_k31 : (Rows.gftwoRankRow.veiledFits Try.prog Try.f3.params.toList (Try.f3.params.toList ++ Rows.gftwoRankSpec.plain.varTypes Try.prog ++ Try.f3.resultTypes.toList)) = true := by kernel_rfl
set_option maxRecDepth 100000 in
theorem gftwoRank_closed : joinedFacts Try.prog 3 Try.f3 Rows.gftwoRankSpec Rows.gftwoRankRow = true := (and2 (and2 (and2 (and2 (and2 (and2 (and2 (and2 (and2 (and2 (and2 (and2 (and2 (and2 (and2 (and2 (and2 (and2 (and2 (and2 (and2 (and2 (and2 (and2 (and2 (and2 (and2 (and2 (and2 (and2 (and2 gftwoRank_k0 laidOut) prog_maps) gftwoRank_k3) gftwoRank_k4) gftwoRank_k5) prog_stops) gftwoRank_k7) prog_knobs) gftwoRank_k9) gftwoRank_k10) gftwoRank_k11) gftwoRank_k12) gftwoRank_k13) gftwoRank_k14) gftwoRank_k15) gftwoRank_k16) gftwoRank_k17) gftwoRank_k18) gftwoRank_k19) gftwoRank_k20) gftwoRank_k21) gftwoRank_k22) gftwoRank_k23) prog_heard) prog_enter) gftwoRank_k26) gftwoRank_k27) gftwoRank_k28) gftwoRank_k29) gftwoRank_k30) gftwoRank_k31)
theorem gftwoRank_named : Try.prog.funcNamed Rows.gftwoRankRow.func = some 3 := by kernel_rfl
theorem gftwoRank_inst : Try.f3.isInstance Try.prog Rows.gftwoRankRow.origin Rows.gftwoRankRow.targs := of_decide_eq_true (by kernel_rfl)
theorem gftwoRank_wrap : Try.f3.isWrapper Try.prog Rows.gftwoRankRow.wrapper Rows.gftwoRankRow.mainSum := by unfold Func.isWrapper; first | (rw [if_pos (by decide +kernel)]; kernel_rfl) | (rw [if_neg (by decide +kernel)]; exact ⟨rfl, rfl⟩)
set_option maxRecDepth 100000 in
theorem gftwoRank_lifted (os : Os) (started : os.Started) (H : Type) (enc : TypeId × Value → H) :
    ReturnsInHanded {} Try.checked os 3 .any (Rows.gftwoRankSpec.pre6 enc Try.prog Try.f3 Rows.gftwoRankRow.domain false) (Rows.gftwoRankSpec.post enc Try.prog Try.f3 false true false false) := by
  refine returnsInHanded_of_change (C := Try.checked) own started (by kernel_rfl) Try.func3
    (ChangeSpec.witness6 (enc := enc) (C := Try.checked) false ⟨#[], #[.int .i64 0, .slice none 0 0], []⟩ 8 (by kernel_rfl) (by kernel_rfl) (by kernel_rfl) (by kernel_rfl)) ?_
  intro W base args ds gs before hval0 hW hcnd _
  have hval : ∀ (j : Nat) t v, Try.f3.params[j]? = some t → args[j]? = some v → Value.okWide Try.prog W .any base t v := hval0
  have hW' := hW
  obtain ⟨p, q, hA0, hV, rfl, hfz, hnd⟩ := hW
  have hA : DataW.TrodAll enc Try.prog W 0 (fun _ => true) true Try.f3.params.toList args.toList ds p := hA0
  rw [Try.params3] at hA hval
  obtain ⟨v0, vs0, d0, ds0, p0, q0, hargs, rfl, rfl, h0, r0⟩ := trodAll_cons hA
  obtain ⟨v1, vs1, d1, ds1, p1, q1, rfl, rfl, rfl, h1, r1⟩ := trodAll_cons r0
  obtain ⟨rfl, rfl, rfl⟩ := trodAll_nil r1
  obtain rfl : args = #[v0, v1] := by cases args; simp_all
  obtain ⟨rfl, rfl⟩ := trodVars_none hV
  obtain ⟨i0, rfl, rfl, rfl, w0⟩ := open_int Try.underlying3 (hval 0 3 v0 rfl rfl) h0
  obtain ⟨T1, aT1, cT1, rfl, hT1, lT1, lR1, lC1⟩ := open_tab (hval 1 22 v1 rfl rfl) h1
  have k1 := h1
  have lt1 : ∀ x ∈ p1, x.block < W.heap.size := by obtain ⟨m, hm⟩ := k1; exact DataW.trod_lt m _ _ _ hm
  clear hA0 hval0
  refine (grank_any i0 T1 aT1 cT1 W w0 hT1).mono fun e W' ⟨he, bel⟩ => ?_
  subst he
  exact ⟨_, rfl, _, _, _, [], _, [], hW', trodAll_mk1 (shut_bool Try.underlying4 _), (trodAll_cons_mk (shut_int Try.underlying3 w0) (trodAll_cons_mk (Below.trod laidOut (by kernel_rfl) (of_decide_eq_true (by kernel_rfl)) k1 bel lt1) trodAll_mk0)), rfl, bel.frame _, fun h => by cases h⟩
theorem gftwoRank_holds : Rows.GftwoRankSaid :=
  OpenClaim.holds_of_wide 3 Try.f3 rfl rfl rfl rfl rfl rfl rfl ⟨rfl, rfl, rfl, rfl, rfl⟩ rfl rfl rfl rfl rfl gftwoRank_named Try.func3 gftwoRank_closed gftwoRank_inst gftwoRank_wrap
    (fun os started H enc _ => gftwoRank_lifted os started H enc)
#print axioms gftwoRank_holds
end Go.Proofs.Ytlgiponfcmeiiaa
