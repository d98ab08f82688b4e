/- The law QuandleAutomorphisms. -/
import Derived.Test.YtlgiponfcmeiiaaDoorFrame0
import Derived.Test.YtlgiponfcmeiiaaDoorCards
import Derived.Test.YtlgiponfcmeiiaaDoorTie
import Derived.LaidMore
import Derived.SevenTiedAt
import Derived.Stop.Joined
import Derived.Test.YtlgiponfcmeiiaaDoorLAut
namespace Go.Proofs.YtlgiponfcmeiiaaDoor
open Go Go.RowKit Go.ChangeShapes Go.WideShapes Go.ChangeAt Go.Joins
theorem quandleAutomorphisms_k0 : (Rows.quandleAutomorphismsRow.wf (OpenSpec.ofChange Rows.quandleAutomorphismsSpec)) = true := by kernel_rfl
theorem quandleAutomorphisms_k3 : (Tryd.f9.params.all (Tryd.prog.readableRec ·)) = true := by kernel_rfl
theorem quandleAutomorphisms_k4 : (namedTie Tryd.prog Rows.quandleAutomorphismsRow.named Rows.quandleAutomorphismsSpec.vars) = true := by kernel_rfl
theorem quandleAutomorphisms_k5 : (Rows.quandleAutomorphismsRow.stops == []) = true := by kernel_rfl
theorem quandleAutomorphisms_k7 : (Rows.quandleAutomorphismsRow.knobs == []) = true := by kernel_rfl
theorem quandleAutomorphisms_k9 : (Rows.quandleAutomorphismsRow.inPlace == Tryd.prog.inPlace 9) = true := by kernel_rfl
theorem quandleAutomorphisms_k10 : (Rows.quandleAutomorphismsRow.unfollowed == Tryd.prog.unfollowed 9) = true := by kernel_rfl
theorem quandleAutomorphisms_k11 : (Rows.quandleAutomorphismsRow.recurses == Tryd.prog.recurses 9) = true := by kernel_rfl
theorem quandleAutomorphisms_k12 : (Rows.quandleAutomorphismsRow.named == Tryd.prog.varsNamed 9) = true := by kernel_rfl
theorem quandleAutomorphisms_k13 : (Rows.quandleAutomorphismsRow.maps == (Tryd.f9.params.toList ++ Rows.quandleAutomorphismsSpec.plain.varTypes Tryd.prog).any (Tryd.prog.mapsRec ·)) = true := by kernel_rfl
theorem quandleAutomorphisms_k14 : (Rows.quandleAutomorphismsRow.ifaces == (Tryd.f9.params.toList ++ Rows.quandleAutomorphismsSpec.plain.varTypes Tryd.prog).any (Tryd.prog.ifacesRec ·)) = true := by kernel_rfl
theorem quandleAutomorphisms_k15 : (Rows.quandleAutomorphismsRow.mapsOut == Tryd.prog.mapsAmong Tryd.f9.resultTypes.toList) = true := by kernel_rfl
theorem quandleAutomorphisms_k16 : (Rows.quandleAutomorphismsRow.loops == (Tryd.f9.params.toList ++ Rows.quandleAutomorphismsSpec.plain.varTypes Tryd.prog).any (Tryd.prog.loopsFrom ·)) = true := by kernel_rfl
theorem quandleAutomorphisms_k17 : (Rows.quandleAutomorphismsRow.wideKeys == (Tryd.f9.params.toList ++ Rows.quandleAutomorphismsSpec.plain.varTypes Tryd.prog ++ Tryd.f9.resultTypes.toList).any (Tryd.prog.wideKeysFrom ·)) = true := by kernel_rfl
theorem quandleAutomorphisms_k18 : (Rows.quandleAutomorphismsSpec.vars.all (Tryd.prog.varReadable ·)) = true := by kernel_rfl
theorem quandleAutomorphisms_k19 : (Tryd.f9.resultTypes.all (fun t => Tryd.prog.readableRec t && decide (t < Tryd.prog.types.size))) = true := by kernel_rfl
theorem quandleAutomorphisms_k20 : (Rows.quandleAutomorphismsRow.ifacesOut == Tryd.f9.resultTypes.toList.any (Tryd.prog.ifacesRec ·)) = true := by kernel_rfl
theorem quandleAutomorphisms_k21 : (Rows.quandleAutomorphismsRow.loopsOut == Tryd.f9.resultTypes.toList.any (Tryd.prog.loopsFrom ·)) = true := by kernel_rfl
theorem quandleAutomorphisms_k22 : (Rows.quandleAutomorphismsRow.plainKeys == Tryd.prog.plainKeys) = true := by rw [prog_keys]; rfl
theorem quandleAutomorphisms_k23 : (Rows.quandleAutomorphismsRow.shortTexts.isNone) = true := by kernel_rfl
theorem quandleAutomorphisms_k26 : (Rows.quandleAutomorphismsRow.lifted == Tryd.prog.liftsFinal) = true := by rw [prog_final]; rfl
theorem quandleAutomorphisms_k27 : (Tryd.prog.make == some Rows.quandleAutomorphismsRow.make) = true := by rw [prog_make]; rfl
theorem quandleAutomorphisms_k28 : (Rows.quandleAutomorphismsRow.kinds == (if Rows.quandleAutomorphismsRow.domain.isEmpty then [] else Tryd.f9.params.toList.map fun t => match Tryd.prog.underlying t with | some (.int k) => some k | _ => none)) = true := by kernel_rfl
theorem quandleAutomorphisms_k29 : (Rows.quandleAutomorphismsRow.pinned == Rows.quandleAutomorphismsRow.pinnedBy) = true := by kernel_rfl
theorem quandleAutomorphisms_k30 : (Rows.quandleAutomorphismsRow.veiled == (Tryd.f9.params.toList ++ Rows.quandleAutomorphismsSpec.plain.varTypes Tryd.prog ++ Tryd.f9.resultTypes.toList).any (Tryd.prog.veiledRec ·)) = true := by kernel_rfl
theorem quandleAutomorphisms_k31 : (Rows.quandleAutomorphismsRow.veiledFits Tryd.prog Tryd.f9.params.toList (Tryd.f9.params.toList ++ Rows.quandleAutomorphismsSpec.plain.varTypes Tryd.prog ++ Tryd.f9.resultTypes.toList)) = true := by kernel_rfl
set_option maxRecDepth 100000 in
theorem quandleAutomorphisms_closed : joinedFacts Tryd.prog 9 Tryd.f9 Rows.quandleAutomorphismsSpec Rows.quandleAutomorphismsRow = true := (and2 (and2 (and2 (and2 (and2 (and2 (and2 (and2 (and2 (and2 (and2 (and2 (and2 (and2 (and2 (and2 (and2 (and2 (and2 (and2 (and2 (and2 (and2 (and2 (and2 (and2 (and2 (and2 (and2 (and2 (and2 quandleAutomorphisms_k0 laidOut) prog_maps) quandleAutomorphisms_k3) quandleAutomorphisms_k4) quandleAutomorphisms_k5) prog_stops) quandleAutomorphisms_k7) prog_knobs) quandleAutomorphisms_k9) quandleAutomorphisms_k10) quandleAutomorphisms_k11) quandleAutomorphisms_k12) quandleAutomorphisms_k13) quandleAutomorphisms_k14) quandleAutomorphisms_k15) quandleAutomorphisms_k16) quandleAutomorphisms_k17) quandleAutomorphisms_k18) quandleAutomorphisms_k19) quandleAutomorphisms_k20) quandleAutomorphisms_k21) quandleAutomorphisms_k22) quandleAutomorphisms_k23) prog_heard) prog_enter) quandleAutomorphisms_k26) quandleAutomorphisms_k27) quandleAutomorphisms_k28) quandleAutomorphisms_k29) quandleAutomorphisms_k30) quandleAutomorphisms_k31)
theorem quandleAutomorphisms_named : Tryd.prog.funcNamed Rows.quandleAutomorphismsRow.func = some 9 := by kernel_rfl
theorem quandleAutomorphisms_inst : Tryd.f9.isInstance Tryd.prog Rows.quandleAutomorphismsRow.origin Rows.quandleAutomorphismsRow.targs := of_decide_eq_true (by kernel_rfl)
theorem quandleAutomorphisms_wrap : Tryd.f9.isWrapper Tryd.prog Rows.quandleAutomorphismsRow.wrapper Rows.quandleAutomorphismsRow.mainSum := by unfold Func.isWrapper; first | (rw [if_pos (by decide +kernel)]; kernel_rfl) | (rw [if_neg (by decide +kernel)]; exact ⟨rfl, rfl⟩)
set_option maxRecDepth 100000 in
theorem quandleAutomorphisms_door (os : Os) (args : Array Value) : laidMetH Tryd.prog Rows.quandleAutomorphismsRow.laid ((World.doorLaid Tryd.prog 400 os).forCall (fun _ _ => 0) ⟨#[], args, []⟩).memory :=
  laidMetH_of_parts3 (fuel := 8) (laidMet_of_run' 8 (by kernel_rfl) (by kernel_rfl)) (by kernel_rfl) (by kernel_rfl)
set_option maxRecDepth 100000 in
theorem quandleAutomorphisms_lifted (os : Os) (started : os.Started) (H : Type) (enc : TypeId × Value → H) :
    ReturnsInHanded {} Tryd.checked os 9 .any (fun w args => (Rows.quandleAutomorphismsSpec.pre enc Tryd.prog Tryd.f9 [] false w args ∧ laidMetH Tryd.prog Rows.quandleAutomorphismsRow.laid w) ∧ sizedMet enc Tryd.prog Tryd.f9 (OpenSpec.ofChange Rows.quandleAutomorphismsSpec) false w args) (Rows.quandleAutomorphismsSpec.post enc Tryd.prog Tryd.f9 false true false false) := by
  refine returnsInHanded_of_change_and (C := Tryd.checked) (X := fun w _ => laidMetH Tryd.prog Rows.quandleAutomorphismsRow.laid w) (fun _ _ _ hh h => h.of_heap hh) own started (by kernel_rfl) Tryd.func9
    (ChangeSpec.witness_shaped (enc := enc) (C := Tryd.checked) (os := os) (X := fun w _ => laidMetH Tryd.prog Rows.quandleAutomorphismsRow.laid w) false (World.doorLaid Tryd.prog 400 os) #[.slice none 0 0, .int .u8 0] 8 rfl (World.shaped_of_RefB (by kernel_rfl) (by kernel_rfl)) (by kernel_rfl) (by kernel_rfl) (by kernel_rfl) (quandleAutomorphisms_door os _)) ?_
  intro W base args ds gs before hval0 hW hcnd _ hL _
  have hval : ∀ (j : Nat) t v, Tryd.f9.params[j]? = some t → args[j]? = some v → Value.okWide Tryd.prog W .any base t v := hval0
  have hW' := hW
  obtain ⟨p, q, hA0, hV, rfl, hfz, hnd⟩ := hW
  have hA : DataW.TrodAll enc Tryd.prog W 0 (fun _ => true) true Tryd.f9.params.toList args.toList ds p := hA0
  rw [Tryd.params9] at hA hval
  obtain ⟨v0, vs0, d0, ds0, p0, q0, hargs, rfl, rfl, h0, r0⟩ := trodAll_cons hA
  obtain ⟨v1, vs1, d1, ds1, p1, q1, rfl, rfl, rfl, h1, r1⟩ := trodAll_cons r0
  obtain ⟨rfl, rfl, rfl⟩ := trodAll_nil r1
  obtain rfl : args = #[v0, v1] := by cases args; simp_all
  obtain ⟨rfl, rfl⟩ := trodVars_none hV
  obtain ⟨T0, aT0, cT0, rfl, hT0, lT0, lR0, lC0⟩ := open_tab (hval 0 23 v0 rfl rfl) h0
  have k0 := h0
  have lt0 : ∀ x ∈ p0, x.block < W.heap.size := by obtain ⟨m, hm⟩ := k0; exact DataW.trod_lt m _ _ _ hm
  obtain ⟨i1, rfl, rfl, rfl, w1⟩ := open_int Tryd.underlying5 (hval 1 5 v1 rfl rfl) h1
  clear hA0 hval0
  refine (laut_any T0 aT0 cT0 i1 W hT0 w1).mono fun e W' ⟨he, bel⟩ => ?_
  subst he
  exact ⟨_, rfl, _, _, _, [], _, [], hW', trodAll_mk1 (shut_bool Tryd.underlying4 _), (trodAll_cons_mk (Below.trod laidOut (by kernel_rfl) (of_decide_eq_true (by kernel_rfl)) k0 bel lt0) (trodAll_cons_mk (shut_int Tryd.underlying5 w1) trodAll_mk0)), rfl, bel.frame _, fun h => by cases h⟩
theorem quandleAutomorphisms_row : Rows.QuandleAutomorphismsSaid :=
  OpenClaim.holds_of_wide 9 Tryd.f9 rfl rfl rfl rfl rfl rfl rfl ⟨rfl, rfl, rfl, rfl, rfl⟩ rfl rfl rfl rfl rfl quandleAutomorphisms_named Tryd.func9 quandleAutomorphisms_closed quandleAutomorphisms_inst quandleAutomorphisms_wrap
    (fun os started H enc _ => quandleAutomorphisms_lifted os started H enc)
theorem quandleAutomorphisms_holds : Rows.QuandleAutomorphismsCardSaid :=
  Claim7.holds_tied_plain_at .later [] [.data, .data, .data] true (true, "80a1b384fda0cb5ff6f79141b5cb5edcab0e3e35b331f8e81d08cf96b960c75e") false
    quandleAutomorphisms_row (fun _ h => by cases h) (by kernel_rfl) (fun _ h => by cases h) quandleAutomorphisms_row_tie rfl ⟨rfl, rfl⟩ (by kernel_rfl) rfl
    (fun f fn hf hfn => by
      obtain rfl : f = 9 := Option.some.inj (quandleAutomorphisms_named.symm.trans hf) |>.symm
      obtain rfl : fn = Tryd.f9 := (Option.some.inj (Tryd.func9.symm.trans hfn)).symm
      exact ⟨by kernel_rfl, fun j t ht => by
        rw [Tryd.params9] at ht
        have hm : t ∈ [23, 5] := by
          have := Array.mem_of_getElem? ht
          simpa using this
        have hall : ([23, 5].all fun u => !Tryd.prog.wantsStandIn u) = true := by kernel_rfl
        exact (show Tryd.prog.wantsStandIn t = false by simpa using List.all_eq_true.1 hall t hm)⟩)
    (by kernel_rfl)
#print axioms quandleAutomorphisms_holds
end Go.Proofs.YtlgiponfcmeiiaaDoor
