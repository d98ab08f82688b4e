/- The law QuandleDihedral. -/
import Derived.Test.YtlgiponfcmeiiaaDoorFrame0
import Derived.Test.YtlgiponfcmeiiaaDoorCards
import Derived.Test.YtlgiponfcmeiiaaDoorTie
import Derived.LaidMore
import Derived.SevenTiedAt
import Derived.Stop.Joined
import Derived.Test.YtlgiponfcmeiiaaDoorLDih
namespace Go.Proofs.YtlgiponfcmeiiaaDoor
open Go Go.RowKit Go.ChangeShapes Go.WideShapes Go.ChangeAt Go.Joins
theorem quandleDihedral_k0 : (Rows.quandleDihedralRow.wf (OpenSpec.ofChange Rows.quandleDihedralSpec)) = true := by kernel_rfl
theorem quandleDihedral_k3 : (Tryd.f7.params.all (Tryd.prog.readableRec ·)) = true := by kernel_rfl
theorem quandleDihedral_k4 : (namedTie Tryd.prog Rows.quandleDihedralRow.named Rows.quandleDihedralSpec.vars) = true := by kernel_rfl
theorem quandleDihedral_k5 : (Rows.quandleDihedralRow.stops == []) = true := by kernel_rfl
theorem quandleDihedral_k7 : (Rows.quandleDihedralRow.knobs == []) = true := by kernel_rfl
theorem quandleDihedral_k9 : (Rows.quandleDihedralRow.inPlace == Tryd.prog.inPlace 7) = true := by kernel_rfl
theorem quandleDihedral_k10 : (Rows.quandleDihedralRow.unfollowed == Tryd.prog.unfollowed 7) = true := by kernel_rfl
theorem quandleDihedral_k11 : (Rows.quandleDihedralRow.recurses == Tryd.prog.recurses 7) = true := by kernel_rfl
theorem quandleDihedral_k12 : (Rows.quandleDihedralRow.named == Tryd.prog.varsNamed 7) = true := by kernel_rfl
theorem quandleDihedral_k13 : (Rows.quandleDihedralRow.maps == (Tryd.f7.params.toList ++ Rows.quandleDihedralSpec.plain.varTypes Tryd.prog).any (Tryd.prog.mapsRec ·)) = true := by kernel_rfl
theorem quandleDihedral_k14 : (Rows.quandleDihedralRow.ifaces == (Tryd.f7.params.toList ++ Rows.quandleDihedralSpec.plain.varTypes Tryd.prog).any (Tryd.prog.ifacesRec ·)) = true := by kernel_rfl
theorem quandleDihedral_k15 : (Rows.quandleDihedralRow.mapsOut == Tryd.prog.mapsAmong Tryd.f7.resultTypes.toList) = true := by kernel_rfl
theorem quandleDihedral_k16 : (Rows.quandleDihedralRow.loops == (Tryd.f7.params.toList ++ Rows.quandleDihedralSpec.plain.varTypes Tryd.prog).any (Tryd.prog.loopsFrom ·)) = true := by kernel_rfl
theorem quandleDihedral_k17 : (Rows.quandleDihedralRow.wideKeys == (Tryd.f7.params.toList ++ Rows.quandleDihedralSpec.plain.varTypes Tryd.prog ++ Tryd.f7.resultTypes.toList).any (Tryd.prog.wideKeysFrom ·)) = true := by kernel_rfl
theorem quandleDihedral_k18 : (Rows.quandleDihedralSpec.vars.all (Tryd.prog.varReadable ·)) = true := by kernel_rfl
theorem quandleDihedral_k19 : (Tryd.f7.resultTypes.all (fun t => Tryd.prog.readableRec t && decide (t < Tryd.prog.types.size))) = true := by kernel_rfl
theorem quandleDihedral_k20 : (Rows.quandleDihedralRow.ifacesOut == Tryd.f7.resultTypes.toList.any (Tryd.prog.ifacesRec ·)) = true := by kernel_rfl
theorem quandleDihedral_k21 : (Rows.quandleDihedralRow.loopsOut == Tryd.f7.resultTypes.toList.any (Tryd.prog.loopsFrom ·)) = true := by kernel_rfl
theorem quandleDihedral_k22 : (Rows.quandleDihedralRow.plainKeys == Tryd.prog.plainKeys) = true := by rw [prog_keys]; rfl
theorem quandleDihedral_k23 : (Rows.quandleDihedralRow.shortTexts.isNone) = true := by kernel_rfl
theorem quandleDihedral_k26 : (Rows.quandleDihedralRow.lifted == Tryd.prog.liftsFinal) = true := by rw [prog_final]; rfl
theorem quandleDihedral_k27 : (Tryd.prog.make == some Rows.quandleDihedralRow.make) = true := by rw [prog_make]; rfl
theorem quandleDihedral_k28 : (Rows.quandleDihedralRow.kinds == (if Rows.quandleDihedralRow.domain.isEmpty then [] else Tryd.f7.params.toList.map fun t => match Tryd.prog.underlying t with | some (.int k) => some k | _ => none)) = true := by kernel_rfl
theorem quandleDihedral_k29 : (Rows.quandleDihedralRow.pinned == Rows.quandleDihedralRow.pinnedBy) = true := by kernel_rfl
theorem quandleDihedral_k30 : (Rows.quandleDihedralRow.veiled == (Tryd.f7.params.toList ++ Rows.quandleDihedralSpec.plain.varTypes Tryd.prog ++ Tryd.f7.resultTypes.toList).any (Tryd.prog.veiledRec ·)) = true := by kernel_rfl
theorem quandleDihedral_k31 : (Rows.quandleDihedralRow.veiledFits Tryd.prog Tryd.f7.params.toList (Tryd.f7.params.toList ++ Rows.quandleDihedralSpec.plain.varTypes Tryd.prog ++ Tryd.f7.resultTypes.toList)) = true := by kernel_rfl
set_option maxRecDepth 100000 in
theorem quandleDihedral_closed : joinedFacts Tryd.prog 7 Tryd.f7 Rows.quandleDihedralSpec Rows.quandleDihedralRow = true := (and2 (and2 (and2 (and2 (and2 (and2 (and2 (and2 (and2 (and2 (and2 (and2 (and2 (and2 (and2 (and2 (and2 (and2 (and2 (and2 (and2 (and2 (and2 (and2 (and2 (and2 (and2 (and2 (and2 (and2 (and2 quandleDihedral_k0 laidOut) prog_maps) quandleDihedral_k3) quandleDihedral_k4) quandleDihedral_k5) prog_stops) quandleDihedral_k7) prog_knobs) quandleDihedral_k9) quandleDihedral_k10) quandleDihedral_k11) quandleDihedral_k12) quandleDihedral_k13) quandleDihedral_k14) quandleDihedral_k15) quandleDihedral_k16) quandleDihedral_k17) quandleDihedral_k18) quandleDihedral_k19) quandleDihedral_k20) quandleDihedral_k21) quandleDihedral_k22) quandleDihedral_k23) prog_heard) prog_enter) quandleDihedral_k26) quandleDihedral_k27) quandleDihedral_k28) quandleDihedral_k29) quandleDihedral_k30) quandleDihedral_k31)
theorem quandleDihedral_named : Tryd.prog.funcNamed Rows.quandleDihedralRow.func = some 7 := by kernel_rfl
theorem quandleDihedral_inst : Tryd.f7.isInstance Tryd.prog Rows.quandleDihedralRow.origin Rows.quandleDihedralRow.targs := of_decide_eq_true (by kernel_rfl)
theorem quandleDihedral_wrap : Tryd.f7.isWrapper Tryd.prog Rows.quandleDihedralRow.wrapper Rows.quandleDihedralRow.mainSum := by unfold Func.isWrapper; first | (rw [if_pos (by decide +kernel)]; kernel_rfl) | (rw [if_neg (by decide +kernel)]; exact ⟨rfl, rfl⟩)
set_option maxRecDepth 100000 in
theorem quandleDihedral_door (os : Os) (args : Array Value) : laidMetH Tryd.prog Rows.quandleDihedralRow.laid ((World.doorLaid Tryd.prog 400 os).forCall (fun _ _ => 0) ⟨#[], args, []⟩).memory :=
  laidMetH_of_parts3 (fuel := 8) (laidMet_of_run' 8 (by kernel_rfl) (by kernel_rfl)) (by kernel_rfl) (by kernel_rfl)
set_option maxRecDepth 100000 in
theorem quandleDihedral_lifted (os : Os) (started : os.Started) (H : Type) (enc : TypeId × Value → H) :
    ReturnsInHanded {} Tryd.checked os 7 .any (fun w args => (Rows.quandleDihedralSpec.pre enc Tryd.prog Tryd.f7 [] false w args ∧ laidMetH Tryd.prog Rows.quandleDihedralRow.laid w) ∧ sizedMet enc Tryd.prog Tryd.f7 (OpenSpec.ofChange Rows.quandleDihedralSpec) false w args) (Rows.quandleDihedralSpec.post enc Tryd.prog Tryd.f7 false true false false) := by
  refine returnsInHanded_of_change_and (C := Tryd.checked) (X := fun w _ => laidMetH Tryd.prog Rows.quandleDihedralRow.laid w) (fun _ _ _ hh h => h.of_heap hh) own started (by kernel_rfl) Tryd.func7
    (ChangeSpec.witness_shaped (enc := enc) (C := Tryd.checked) (os := os) (X := fun w _ => laidMetH Tryd.prog Rows.quandleDihedralRow.laid w) false (World.doorLaid Tryd.prog 400 os) #[.int .u8 0] 8 rfl (World.shaped_of_RefB (by kernel_rfl) (by kernel_rfl)) (by kernel_rfl) (by kernel_rfl) (by kernel_rfl) (quandleDihedral_door os _)) ?_
  intro W base args ds gs before hval0 hW hcnd _ hL _
  have hval : ∀ (j : Nat) t v, Tryd.f7.params[j]? = some t → args[j]? = some v → Value.okWide Tryd.prog W .any base t v := hval0
  have hW' := hW
  obtain ⟨p, q, hA0, hV, rfl, hfz, hnd⟩ := hW
  have hA : DataW.TrodAll enc Tryd.prog W 0 (fun _ => true) true Tryd.f7.params.toList args.toList ds p := hA0
  rw [Tryd.params7] at hA hval
  obtain ⟨v0, vs0, d0, ds0, p0, q0, hargs, rfl, rfl, h0, r0⟩ := trodAll_cons hA
  obtain ⟨rfl, rfl, rfl⟩ := trodAll_nil r0
  obtain rfl : args = #[v0] := by cases args; simp_all
  obtain ⟨rfl, rfl⟩ := trodVars_none hV
  obtain ⟨i0, rfl, rfl, rfl, w0⟩ := open_int Tryd.underlying5 (hval 0 5 v0 rfl rfl) h0
  clear hA0 hval0
  refine (ldih_any i0 W w0).mono fun e W' ⟨he, bel⟩ => ?_
  subst he
  exact ⟨_, rfl, _, _, _, [], _, [], hW', trodAll_mk1 (shut_bool Tryd.underlying4 _), (trodAll_cons_mk (shut_int Tryd.underlying5 w0) trodAll_mk0), rfl, bel.frame _, fun h => by cases h⟩
theorem quandleDihedral_row : Rows.QuandleDihedralSaid :=
  OpenClaim.holds_of_wide 7 Tryd.f7 rfl rfl rfl rfl rfl rfl rfl ⟨rfl, rfl, rfl, rfl, rfl⟩ rfl rfl rfl rfl rfl quandleDihedral_named Tryd.func7 quandleDihedral_closed quandleDihedral_inst quandleDihedral_wrap
    (fun os started H enc _ => quandleDihedral_lifted os started H enc)
theorem quandleDihedral_holds : Rows.QuandleDihedralCardSaid :=
  Claim7.holds_tied_plain_at .later [] [.data, .data, .data] true (true, "80a1b384fda0cb5ff6f79141b5cb5edcab0e3e35b331f8e81d08cf96b960c75e") false
    quandleDihedral_row (fun _ h => by cases h) (by kernel_rfl) (fun _ h => by cases h) quandleDihedral_row_tie rfl ⟨rfl, rfl⟩ (by kernel_rfl) rfl
    (fun f fn hf hfn => by
      obtain rfl : f = 7 := Option.some.inj (quandleDihedral_named.symm.trans hf) |>.symm
      obtain rfl : fn = Tryd.f7 := (Option.some.inj (Tryd.func7.symm.trans hfn)).symm
      exact ⟨by kernel_rfl, fun j t ht => by
        rw [Tryd.params7] at ht
        have hm : t ∈ [5] := by
          have := Array.mem_of_getElem? ht
          simpa using this
        have hall : ([5].all fun u => !Tryd.prog.wantsStandIn u) = true := by kernel_rfl
        exact (show Tryd.prog.wantsStandIn t = false by simpa using List.all_eq_true.1 hall t hm)⟩)
    (by kernel_rfl)
#print axioms quandleDihedral_holds
end Go.Proofs.YtlgiponfcmeiiaaDoor
