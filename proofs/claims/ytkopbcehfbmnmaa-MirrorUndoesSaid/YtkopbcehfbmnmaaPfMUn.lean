/- MirrorUndoes: for every diagram and all numbers the law returns true, and the arguments read afterwards as before. No condition. -/
import Derived.Test.YtkopbcehfbmnmaaFrame0
import Derived.Test.YtkopbcehfbmnmaaMUnA
import Derived.Test.YtkopbcehfbmnmaaMUnC
namespace Go.Proofs.Ytkopbcehfbmnmaa
open Go Go.RowKit Go.ChangeShapes Go.WideShapes Go.ChangeAt Go.Joins
theorem mun_any (S M : List Int) (L : Int) (aS aM : Option Addr) (cS cM : Nat) (k n : Int) (w : World) (hSl : S.length ≤ maxLen) (hMl : M.length ≤ maxLen) (_ : (Lit.int .i64 L).wf = true) (hS : IntsAt w aS S) (hM : IntsAt w aM M) (hk : (Lit.int .u8 k).wf = true) (hn : (Lit.int .u8 n).wf = true) :
    Calls Try.prog 18 #[.agg #[.slice aS S.length cS, .slice aM M.length cM, .int .i64 L], .int .u8 k, .int .u8 n] w fun e w' => e = .returned (.bool true) ∧ Below w.heap.size w w' := by
  by_cases hf : few6B S M = true
  · by_cases hv : vldB S M L = true
    · simp only [Lit.wf, Bool.and_eq_true, decide_eq_true_eq] at hk hn
      have e1 : IntKind.u8.min = 0 := rfl
      have e2 : IntKind.u8.max = 255 := rfl
      rw [e1, e2] at hk hn
      obtain ⟨k, rfl⟩ : ∃ f : Nat, k = (f : Int) := ⟨k.toNat, by omega⟩
      obtain ⟨n, rfl⟩ : ∃ f : Nat, n = (f : Int) := ⟨n.toNat, by omega⟩
      by_cases h4 : k % 5 < 4
      · exact mun_op S M L aS aM cS cM k n w hf hv (by omega) (by omega) h4 hS hM
      · obtain ⟨N, hN, _, _⟩ := comps_nat hv
        by_cases hN0 : N = 0
        · exact mun_fourz S M L aS aM cS cM k n N w hf hv (by omega) (by omega) (by omega) hN hN0 hS hM
        · exact mun_four S M L aS aM cS cM k n N w hf hv (by omega) (by omega) (by omega) hN (by omega) hS hM
    · exact mun_no S M L aS aM cS cM k n w hf (by simpa using hv) hS hM
  · exact mun_large S M L aS aM cS cM k n w hSl hMl (by simpa using hf)
theorem mirrorUndoes_k0 : (Rows.mirrorUndoesRow.wf (OpenSpec.ofChange Rows.mirrorUndoesSpec)) = true := by kernel_rfl
theorem mirrorUndoes_k3 : (Try.f18.params.all (Try.prog.readableRec ·)) = true := by kernel_rfl
theorem mirrorUndoes_k4 : (namedTie Try.prog Rows.mirrorUndoesRow.named Rows.mirrorUndoesSpec.vars) = true := by kernel_rfl
theorem mirrorUndoes_k5 : (Rows.mirrorUndoesRow.stops == []) = true := by kernel_rfl
theorem mirrorUndoes_k7 : (Rows.mirrorUndoesRow.knobs == []) = true := by kernel_rfl
theorem mirrorUndoes_k9 : (Rows.mirrorUndoesRow.inPlace == Try.prog.inPlace 18) = true := by kernel_rfl
theorem mirrorUndoes_k10 : (Rows.mirrorUndoesRow.unfollowed == Try.prog.unfollowed 18) = true := by kernel_rfl
theorem mirrorUndoes_k11 : (Rows.mirrorUndoesRow.recurses == Try.prog.recurses 18) = true := by kernel_rfl
theorem mirrorUndoes_k12 : (Rows.mirrorUndoesRow.named == Try.prog.varsNamed 18) = true := by kernel_rfl
theorem mirrorUndoes_k13 : (Rows.mirrorUndoesRow.maps == (Try.f18.params.toList ++ Rows.mirrorUndoesSpec.plain.varTypes Try.prog).any (Try.prog.mapsRec ·)) = true := by kernel_rfl
theorem mirrorUndoes_k14 : (Rows.mirrorUndoesRow.ifaces == (Try.f18.params.toList ++ Rows.mirrorUndoesSpec.plain.varTypes Try.prog).any (Try.prog.ifacesRec ·)) = true := by kernel_rfl
theorem mirrorUndoes_k15 : (Rows.mirrorUndoesRow.mapsOut == Try.prog.mapsAmong Try.f18.resultTypes.toList) = true := by kernel_rfl
theorem mirrorUndoes_k16 : (Rows.mirrorUndoesRow.loops == (Try.f18.params.toList ++ Rows.mirrorUndoesSpec.plain.varTypes Try.prog).any (Try.prog.loopsFrom ·)) = true := by kernel_rfl
theorem mirrorUndoes_k17 : (Rows.mirrorUndoesRow.wideKeys == (Try.f18.params.toList ++ Rows.mirrorUndoesSpec.plain.varTypes Try.prog ++ Try.f18.resultTypes.toList).any (Try.prog.wideKeysFrom ·)) = true := by kernel_rfl
theorem mirrorUndoes_k18 : (Rows.mirrorUndoesSpec.vars.all (Try.prog.varReadable ·)) = true := by kernel_rfl
theorem mirrorUndoes_k19 : (Try.f18.resultTypes.all (fun t => Try.prog.readableRec t && decide (t < Try.prog.types.size))) = true := by kernel_rfl
theorem mirrorUndoes_k20 : (Rows.mirrorUndoesRow.ifacesOut == Try.f18.resultTypes.toList.any (Try.prog.ifacesRec ·)) = true := by kernel_rfl
theorem mirrorUndoes_k21 : (Rows.mirrorUndoesRow.loopsOut == Try.f18.resultTypes.toList.any (Try.prog.loopsFrom ·)) = true := by kernel_rfl
theorem mirrorUndoes_k22 : (Rows.mirrorUndoesRow.plainKeys == Try.prog.plainKeys) = true := by rw [prog_keys]; rfl
theorem mirrorUndoes_k23 : (Rows.mirrorUndoesRow.shortTexts.isNone) = true := by kernel_rfl
theorem mirrorUndoes_k26 : (Rows.mirrorUndoesRow.lifted == Try.prog.liftsFinal) = true := by rw [prog_final]; rfl
theorem mirrorUndoes_k27 : (Try.prog.make == some Rows.mirrorUndoesRow.make) = true := by rw [prog_make]; rfl
theorem mirrorUndoes_k28 : (Rows.mirrorUndoesRow.kinds == (if Rows.mirrorUndoesRow.domain.isEmpty then [] else Try.f18.params.toList.map fun t => match Try.prog.underlying t with | some (.int k) => some k | _ => none)) = true := by kernel_rfl
theorem mirrorUndoes_k29 : (Rows.mirrorUndoesRow.pinned == Rows.mirrorUndoesRow.pinnedBy) = true := by kernel_rfl
theorem mirrorUndoes_k30 : (Rows.mirrorUndoesRow.veiled == (Try.f18.params.toList ++ Rows.mirrorUndoesSpec.plain.varTypes Try.prog ++ Try.f18.resultTypes.toList).any (Try.prog.veiledRec ·)) = true := by kernel_rfl
theorem mirrorUndoes_k31 : (Rows.mirrorUndoesRow.veiledFits Try.prog Try.f18.params.toList (Try.f18.params.toList ++ Rows.mirrorUndoesSpec.plain.varTypes Try.prog ++ Try.f18.resultTypes.toList)) = true := by kernel_rfl
set_option maxRecDepth 100000 in
theorem mirrorUndoes_closed : joinedFacts Try.prog 18 Try.f18 Rows.mirrorUndoesSpec Rows.mirrorUndoesRow = true := (and2 (and2 (and2 (and2 (and2 (and2 (and2 (and2 (and2 (and2 (and2 (and2 (and2 (and2 (and2 (and2 (and2 (and2 (and2 (and2 (and2 (and2 (and2 (and2 (and2 (and2 (and2 (and2 (and2 (and2 (and2 mirrorUndoes_k0 laidOut) prog_maps) mirrorUndoes_k3) mirrorUndoes_k4) mirrorUndoes_k5) prog_stops) mirrorUndoes_k7) prog_knobs) mirrorUndoes_k9) mirrorUndoes_k10) mirrorUndoes_k11) mirrorUndoes_k12) mirrorUndoes_k13) mirrorUndoes_k14) mirrorUndoes_k15) mirrorUndoes_k16) mirrorUndoes_k17) mirrorUndoes_k18) mirrorUndoes_k19) mirrorUndoes_k20) mirrorUndoes_k21) mirrorUndoes_k22) mirrorUndoes_k23) prog_heard) prog_enter) mirrorUndoes_k26) mirrorUndoes_k27) mirrorUndoes_k28) mirrorUndoes_k29) mirrorUndoes_k30) mirrorUndoes_k31)
theorem mirrorUndoes_named : Try.prog.funcNamed Rows.mirrorUndoesRow.func = some 18 := by kernel_rfl
theorem mirrorUndoes_inst : Try.f18.isInstance Try.prog Rows.mirrorUndoesRow.origin Rows.mirrorUndoesRow.targs := of_decide_eq_true (by kernel_rfl)
theorem mirrorUndoes_wrap : Try.f18.isWrapper Try.prog Rows.mirrorUndoesRow.wrapper Rows.mirrorUndoesRow.mainSum := by unfold Func.isWrapper; first | (rw [if_pos (by decide +kernel)]; kernel_rfl) | (rw [if_neg (by decide +kernel)]; exact ⟨rfl, rfl⟩)
set_option maxRecDepth 100000 in
theorem mirrorUndoes_lifted (os : Os) (started : os.Started) (H : Type) (enc : TypeId × Value → H) :
    ReturnsInHanded {} Try.checked os 18 .any (Rows.mirrorUndoesSpec.pre6 enc Try.prog Try.f18 Rows.mirrorUndoesRow.domain false) (Rows.mirrorUndoesSpec.post enc Try.prog Try.f18 false true false false) := by
  refine returnsInHanded_of_change (C := Try.checked) own started (by kernel_rfl) Try.func18
    (ChangeSpec.witness6 (enc := enc) (C := Try.checked) false ⟨#[], #[.agg #[.slice none 0 0, .slice none 0 0, .int .i64 0], .int .u8 0, .int .u8 0], []⟩ 8 (by kernel_rfl) (by kernel_rfl) (by kernel_rfl) (by kernel_rfl)) ?_
  intro W base args ds gs before hval0 hW hcnd _
  have hval : ∀ (j : Nat) t v, Try.f18.params[j]? = some t → args[j]? = some v → Value.okWide Try.prog W .any base t v := hval0
  have hW' := hW
  obtain ⟨p, q, hA0, hV, rfl, hfz, hnd⟩ := hW
  have hA : DataW.TrodAll enc Try.prog W 0 (fun _ => true) true Try.f18.params.toList args.toList ds p := hA0
  rw [Try.params18] at hA hval
  obtain ⟨v0, vs0, d0, ds0, p0, q0, hargs, rfl, rfl, h0, r0⟩ := trodAll_cons hA
  obtain ⟨v1, vs1, d1, ds1, p1, q1, rfl, rfl, rfl, h1, r1⟩ := trodAll_cons r0
  obtain ⟨v2, vs2, d2, ds2, p2, q2, rfl, rfl, rfl, h2, r2⟩ := trodAll_cons r1
  obtain ⟨rfl, rfl, rfl⟩ := trodAll_nil r2
  obtain rfl : args = #[v0, v1, v2] := by cases args; simp_all
  obtain ⟨rfl, rfl⟩ := trodVars_none hV
  obtain ⟨S0, M0, L0, aS0, aM0, cS0, cM0, rfl, hS0, hM0, lS0, lM0, wL0⟩ := open_diag (hval 0 24 v0 rfl rfl) h0
  have k0 := h0
  have lt0 : ∀ x ∈ p0, x.block < W.heap.size := by obtain ⟨m, hm⟩ := k0; exact DataW.trod_lt m _ _ _ hm
  obtain ⟨i1, rfl, rfl, rfl, w1⟩ := open_int Try.underlying5 (hval 1 5 v1 rfl rfl) h1
  obtain ⟨i2, rfl, rfl, rfl, w2⟩ := open_int Try.underlying5 (hval 2 5 v2 rfl rfl) h2
  clear hA0 hval0
  refine (mun_any S0 M0 L0 aS0 aM0 cS0 cM0 i1 i2 W lS0 lM0 wL0 hS0 hM0 w1 w2).mono fun e W' ⟨he, bel⟩ => ?_
  subst he
  exact ⟨_, rfl, _, _, _, [], _, [], hW', trodAll_mk1 (shut_bool Try.underlying4 _), (trodAll_cons_mk (Below.trod laidOut (by kernel_rfl) (of_decide_eq_true (by kernel_rfl)) k0 bel lt0) (trodAll_cons_mk (shut_int Try.underlying5 w1) (trodAll_cons_mk (shut_int Try.underlying5 w2) trodAll_mk0))), rfl, bel.frame _, fun h => by cases h⟩
theorem mirrorUndoes_holds : Rows.MirrorUndoesSaid :=
  OpenClaim.holds_of_wide 18 Try.f18 rfl rfl rfl rfl rfl rfl rfl ⟨rfl, rfl, rfl, rfl, rfl⟩ rfl rfl rfl rfl rfl mirrorUndoes_named Try.func18 mirrorUndoes_closed mirrorUndoes_inst mirrorUndoes_wrap
    (fun os started H enc _ => mirrorUndoes_lifted os started H enc)
#print axioms mirrorUndoes_holds
end Go.Proofs.Ytkopbcehfbmnmaa
