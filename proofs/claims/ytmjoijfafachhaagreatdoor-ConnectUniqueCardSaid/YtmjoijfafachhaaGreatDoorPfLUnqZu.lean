/- ConnectUnique: the keys of the prime factors are the same after renumbering; for every diagram and every order (the law itself looks at 14 crossings at most). -/
import Derived.Test.YtmjoijfafachhaaGreatDoorCards
import Derived.Test.YtmjoijfafachhaaGreatDoorTie
import Derived.LaidMore
import Derived.SevenTiedAt
import Derived.Stop.Joined
import Derived.Stop.LaidErr
import Derived.Lib.LaidTab
import Derived.WalkKit
import Derived.WalkSpells
import Derived.WalkLawsBesides
import Derived.Deep.AppendSrc
import Derived.Deep.LoopGhost
import Derived.Deep.QuietTactic
import Derived.Deep.RegionWith
import Derived.Deep.DeepMust
import Derived.Deep.DeepFit
import Derived.BigQuiet
import Derived.Lib.Hide
import Derived.Outline
import Derived.Test.YtmjoijfafachhaaGreatDoorRows
import Derived.ProofKit
import Derived.OpenShut
import Derived.ShutString
import Derived.ChangeOld
import Derived.Below
import Derived.Lib.SmallJoins
import Derived.Test.YtmjoijfafachhaaGreatDoorProg
import Derived.Deep.Matrix
import Derived.Deep.DeepCutAuto
import Derived.Deep.RegionLaw
import Derived.Deep.RegionHeld3
import Derived.Shelf.Strings.Builder1
import Derived.Shelf.Small.Bits
import Derived.Shelf.Small.Wraps
import Derived.Shelf.Strings.BuilderF
import Derived.Shelf.Strings.BuilderK
import Derived.Shelf.Strconv.Itoa0
import Derived.Shelf.Strconv.Itoa1
import Derived.Shelf.LaysM
import Derived.Shelf.Strconv.Itoa2
import Derived.Shelf.Strconv.Itoa3
import Derived.Shelf.Sort.Plain
import Derived.Shelf.Slices.Turned
import Derived.Shelf.Slices.Equal
import Derived.Ground.Names2Prog
import Derived.Shelf.Slices.Clone
import Derived.Shelf.Slices.CompactI
import Derived.Shelf.Slices.SearchI
import Derived.Shelf.Slices.Cells
import Derived.Shelf.Slices.In.SortNone
import Derived.Shelf.Slices.Empties2
import Derived.Ground.SlgnProg
import Derived.Shelf.SlicesE.Clone
import Derived.Lib.AppendZeros
import Derived.Deep.RegionHeld
import Derived.Lib.SliceRun
import Derived.Sort.OwnSortedInts
import Derived.Lib.Builder
import Derived.Lib.AppendStr
import Derived.Lib.Walk
import Derived.Laws.Externs
import Derived.Lib.AppendIntMem
import Derived.Test.YtmjoijfafachhaaGreatDoorZuAa
import Derived.Test.YtmjoijfafachhaaGreatDoorZuAb
import Derived.Test.YtmjoijfafachhaaGreatDoorZuAc
import Derived.Test.YtmjoijfafachhaaGreatDoorZuAd
import Derived.Test.YtmjoijfafachhaaGreatDoorZuAe
import Derived.Test.YtmjoijfafachhaaGreatDoorZuAf
import Derived.Test.YtmjoijfafachhaaGreatDoorZuAg
import Derived.Test.YtmjoijfafachhaaGreatDoorZuAh
import Derived.Test.YtmjoijfafachhaaGreatDoorZuAi
import Derived.Test.YtmjoijfafachhaaGreatDoorZuAj
import Derived.Test.YtmjoijfafachhaaGreatDoorZuAk
import Derived.Test.YtmjoijfafachhaaGreatDoorZuAl
import Derived.Test.YtmjoijfafachhaaGreatDoorZuAm
import Derived.Test.YtmjoijfafachhaaGreatDoorZuAn
import Derived.Test.YtmjoijfafachhaaGreatDoorZuAo
import Derived.Test.YtmjoijfafachhaaGreatDoorZuAp
import Derived.Test.YtmjoijfafachhaaGreatDoorZuAq
import Derived.Test.YtmjoijfafachhaaGreatDoorZuAr
import Derived.Test.YtmjoijfafachhaaGreatDoorZuAs
import Derived.Test.YtmjoijfafachhaaGreatDoorZuAt
import Derived.Test.YtmjoijfafachhaaGreatDoorZuAu
import Derived.Test.YtmjoijfafachhaaGreatDoorZuAv
import Derived.Test.YtmjoijfafachhaaGreatDoorZuAw
import Derived.Test.YtmjoijfafachhaaGreatDoorZuAx
import Derived.Test.YtmjoijfafachhaaGreatDoorZuAy
import Derived.Test.YtmjoijfafachhaaGreatDoorZuAz
import Derived.Test.YtmjoijfafachhaaGreatDoorZuBa
import Derived.Test.YtmjoijfafachhaaGreatDoorZuBb
namespace Go.Proofs.YtmjoijfafachhaaGreatDoor
open Go Go.RowKit Go.ChangeShapes Go.WideShapes Go.ChangeAt Go.Joins
theorem connectUnique_k0 : (Rows.connectUniqueRow.wf (OpenSpec.ofChange Rows.connectUniqueSpec)) = true := by kernel_rfl
theorem connectUnique_k3 : (Tryz.f3.params.all (Tryz.prog.readableRec ·)) = true := by kernel_rfl
theorem connectUnique_k4 : (namedTie Tryz.prog Rows.connectUniqueRow.named Rows.connectUniqueSpec.vars) = true := by kernel_rfl
theorem connectUnique_k5 : (Rows.connectUniqueRow.stops == []) = true := by kernel_rfl
theorem connectUnique_k7 : (Rows.connectUniqueRow.knobs == []) = true := by kernel_rfl
theorem connectUnique_k9 : (Rows.connectUniqueRow.inPlace == Tryz.prog.inPlace 3) = true := by kernel_rfl
theorem connectUnique_k10 : (Rows.connectUniqueRow.unfollowed == Tryz.prog.unfollowed 3) = true := by kernel_rfl
theorem connectUnique_k11 : (Rows.connectUniqueRow.recurses == Tryz.prog.recurses 3) = true := by kernel_rfl
theorem connectUnique_k12 : (Rows.connectUniqueRow.named == Tryz.prog.varsNamed 3) = true := by kernel_rfl
theorem connectUnique_k13 : (Rows.connectUniqueRow.maps == (Tryz.f3.params.toList ++ Rows.connectUniqueSpec.plain.varTypes Tryz.prog).any (Tryz.prog.mapsRec ·)) = true := by kernel_rfl
theorem connectUnique_k14 : (Rows.connectUniqueRow.ifaces == (Tryz.f3.params.toList ++ Rows.connectUniqueSpec.plain.varTypes Tryz.prog).any (Tryz.prog.ifacesRec ·)) = true := by kernel_rfl
theorem connectUnique_k15 : (Rows.connectUniqueRow.mapsOut == Tryz.prog.mapsAmong Tryz.f3.resultTypes.toList) = true := by kernel_rfl
theorem connectUnique_k16 : (Rows.connectUniqueRow.loops == (Tryz.f3.params.toList ++ Rows.connectUniqueSpec.plain.varTypes Tryz.prog).any (Tryz.prog.loopsFrom ·)) = true := by kernel_rfl
theorem connectUnique_k17 : (Rows.connectUniqueRow.wideKeys == (Tryz.f3.params.toList ++ Rows.connectUniqueSpec.plain.varTypes Tryz.prog ++ Tryz.f3.resultTypes.toList).any (Tryz.prog.wideKeysFrom ·)) = true := by kernel_rfl
theorem connectUnique_k18 : (Rows.connectUniqueSpec.vars.all (Tryz.prog.varReadable ·)) = true := by kernel_rfl
theorem connectUnique_k19 : (Tryz.f3.resultTypes.all (fun t => Tryz.prog.readableRec t && decide (t < Tryz.prog.types.size))) = true := by kernel_rfl
theorem connectUnique_k20 : (Rows.connectUniqueRow.ifacesOut == Tryz.f3.resultTypes.toList.any (Tryz.prog.ifacesRec ·)) = true := by kernel_rfl
theorem connectUnique_k21 : (Rows.connectUniqueRow.loopsOut == Tryz.f3.resultTypes.toList.any (Tryz.prog.loopsFrom ·)) = true := by kernel_rfl
theorem connectUnique_k22 : (Rows.connectUniqueRow.plainKeys == Tryz.prog.plainKeys) = true := by rw [prog_keys]; rfl
theorem connectUnique_k23 : (Rows.connectUniqueRow.shortTexts.isNone) = true := by kernel_rfl
theorem connectUnique_k26 : (Rows.connectUniqueRow.lifted == Tryz.prog.liftsFinal) = true := by rw [prog_final]; rfl
theorem connectUnique_k27 : (Tryz.prog.make == some Rows.connectUniqueRow.make) = true := by rw [prog_make]; rfl
theorem connectUnique_k28 : (Rows.connectUniqueRow.kinds == (if Rows.connectUniqueRow.domain.isEmpty then [] else Tryz.f3.params.toList.map fun t => match Tryz.prog.underlying t with | some (.int k) => some k | _ => none)) = true := by kernel_rfl
theorem connectUnique_k29 : (Rows.connectUniqueRow.pinned == Rows.connectUniqueRow.pinnedBy) = true := by kernel_rfl
theorem connectUnique_k30 : (Rows.connectUniqueRow.veiled == (Tryz.f3.params.toList ++ Rows.connectUniqueSpec.plain.varTypes Tryz.prog ++ Tryz.f3.resultTypes.toList).any (Tryz.prog.veiledRec ·)) = true := by kernel_rfl
theorem connectUnique_k31 : (Rows.connectUniqueRow.veiledFits Tryz.prog Tryz.f3.params.toList (Tryz.f3.params.toList ++ Rows.connectUniqueSpec.plain.varTypes Tryz.prog ++ Tryz.f3.resultTypes.toList)) = true := by kernel_rfl
set_option maxRecDepth 100000 in
theorem connectUnique_closed : joinedFacts Tryz.prog 3 Tryz.f3 Rows.connectUniqueSpec Rows.connectUniqueRow = true := (and2 (and2 (and2 (and2 (and2 (and2 (and2 (and2 (and2 (and2 (and2 (and2 (and2 (and2 (and2 (and2 (and2 (and2 (and2 (and2 (and2 (and2 (and2 (and2 (and2 (and2 (and2 (and2 (and2 (and2 (and2 connectUnique_k0 laidOut) prog_maps) connectUnique_k3) connectUnique_k4) connectUnique_k5) prog_stops) connectUnique_k7) prog_knobs) connectUnique_k9) connectUnique_k10) connectUnique_k11) connectUnique_k12) connectUnique_k13) connectUnique_k14) connectUnique_k15) connectUnique_k16) connectUnique_k17) connectUnique_k18) connectUnique_k19) connectUnique_k20) connectUnique_k21) connectUnique_k22) connectUnique_k23) prog_heard) prog_enter) connectUnique_k26) connectUnique_k27) connectUnique_k28) connectUnique_k29) connectUnique_k30) connectUnique_k31)
theorem connectUnique_named : Tryz.prog.funcNamed Rows.connectUniqueRow.func = some 3 := by kernel_rfl
theorem connectUnique_inst : Tryz.f3.isInstance Tryz.prog Rows.connectUniqueRow.origin Rows.connectUniqueRow.targs := of_decide_eq_true (by kernel_rfl)
theorem connectUnique_wrap : Tryz.f3.isWrapper Tryz.prog Rows.connectUniqueRow.wrapper Rows.connectUniqueRow.mainSum := by unfold Func.isWrapper; first | (rw [if_pos (by decide +kernel)]; kernel_rfl) | (rw [if_neg (by decide +kernel)]; exact ⟨rfl, rfl⟩)
set_option maxRecDepth 100000 in
theorem connectUnique_door (os : Os) (args : Array Value) : laidMetH Tryz.prog Rows.connectUniqueRow.laid ((World.doorLaid Tryz.prog 400 os).forCall (fun _ _ => 0) ⟨#[], args, []⟩).memory :=
  laidMetH_of_parts3 (fuel := 8) (laidMet_of_run' 8 (by kernel_rfl) (by kernel_rfl)) (by kernel_rfl) (by kernel_rfl)
set_option maxRecDepth 100000 in
theorem connectUnique_lifted (os : Os) (started : os.Started) (H : Type) (enc : TypeId × Value → H) :
    ReturnsInHanded {} Tryz.checked os 3 .any (fun w args => (Rows.connectUniqueSpec.pre enc Tryz.prog Tryz.f3 [] false w args ∧ laidMetH Tryz.prog Rows.connectUniqueRow.laid w) ∧ sizedMet enc Tryz.prog Tryz.f3 (OpenSpec.ofChange Rows.connectUniqueSpec) false w args) (Rows.connectUniqueSpec.post enc Tryz.prog Tryz.f3 false true false false) := by
  refine returnsInHanded_of_change_and (C := Tryz.checked) (X := fun w _ => laidMetH Tryz.prog Rows.connectUniqueRow.laid w) (fun _ _ _ hh h => h.of_heap hh) own started (by kernel_rfl) Tryz.func3
    (ChangeSpec.witness_shaped (enc := enc) (C := Tryz.checked) (os := os) (X := fun w _ => laidMetH Tryz.prog Rows.connectUniqueRow.laid w) false (World.doorLaid Tryz.prog 400 os) #[.agg #[.slice none 0 0, .slice none 0 0, .int .i64 0], .slice none 0 0] 8 rfl (World.shaped_of_RefB (by kernel_rfl) (by kernel_rfl)) (by kernel_rfl) (by kernel_rfl) (by kernel_rfl) (connectUnique_door os _)) ?_
  intro W base args ds gs before hval0 hW hcnd _ hL _
  have hval : ∀ (j : Nat) t v, Tryz.f3.params[j]? = some t → args[j]? = some v → Value.okWide Tryz.prog W .any base t v := hval0
  have hW' := hW
  obtain ⟨p, q, hA0, hV, rfl, hfz, hnd⟩ := hW
  have hA : DataW.TrodAll enc Tryz.prog W 0 (fun _ => true) true Tryz.f3.params.toList args.toList ds p := hA0
  rw [Tryz.params3] at hA hval
  obtain ⟨v0, vs0, d0, ds0, p0, q0, hargs, rfl, rfl, h0, r0⟩ := trodAll_cons hA
  obtain ⟨v1, vs1, d1, ds1, p1, q1, rfl, rfl, rfl, h1, r1⟩ := trodAll_cons r0
  obtain ⟨rfl, rfl, rfl⟩ := trodAll_nil r1
  obtain rfl : args = #[v0, v1] := by cases args; simp_all
  obtain ⟨rfl, rfl⟩ := trodVars_none hV
  obtain ⟨S0, M0, L0, aS0, aM0, cS0, cM0, rfl, hS0, hM0, lS0, lM0, wL0⟩ := open_diag (hval 0 24 v0 rfl rfl) h0
  have k0 := h0
  have lt0 : ∀ x ∈ p0, x.block < W.heap.size := by obtain ⟨m, hm⟩ := k0; exact DataW.trod_lt m _ _ _ hm
  obtain ⟨X1, aX1, cX1, rfl, hX1, lX1⟩ := open_list (hval 1 22 v1 rfl rfl) h1
  have k1 := h1
  have lt1 : ∀ x ∈ p1, x.block < W.heap.size := by obtain ⟨m, hm⟩ := k1; exact DataW.trod_lt m _ _ _ hm
  clear hA0 hval0
  have hL2 : laidMet Tryz.prog Rows.connectUniqueRow.laid W := hL
  have ht : Pow10 W := Lib.tabIs_of_head (g := 0) (t := 135) (e := 92) (n := 20) (by kernel_rfl) (by kernel_rfl) Tryz.underlying135 Tryz.underlying92 (by kernel_rfl) (by kernel_rfl) hL2.tail.tail
  refine (lunq_any S0 M0 L0 aS0 aM0 cS0 cM0 X1 aX1 cX1 W ht lS0 lM0 wL0 hS0 hM0 lX1 hX1).mono fun e W' ⟨he, bel⟩ => ?_
  subst he
  exact ⟨_, rfl, _, _, _, [], _, [], hW', trodAll_mk1 (shut_bool Tryz.underlying4 _), (trodAll_cons_mk (Below.trod laidOut (by kernel_rfl) (of_decide_eq_true (by kernel_rfl)) k0 bel lt0) (trodAll_cons_mk (Below.trod laidOut (by kernel_rfl) (of_decide_eq_true (by kernel_rfl)) k1 bel lt1) trodAll_mk0)), rfl, bel.frame _, fun h => by cases h⟩
theorem connectUnique_row : Rows.ConnectUniqueSaid :=
  OpenClaim.holds_of_wide 3 Tryz.f3 rfl rfl rfl rfl rfl rfl rfl ⟨rfl, rfl, rfl, rfl, rfl⟩ rfl rfl rfl rfl rfl connectUnique_named Tryz.func3 connectUnique_closed connectUnique_inst connectUnique_wrap
    (fun os started H enc _ => connectUnique_lifted os started H enc)
theorem connectUnique_holds : Rows.ConnectUniqueCardSaid :=
  Claim7.holds_tied_plain_at .later [] [.data, .data, .data] true (true, "11b4c271c7706556a23e8a73bdcab2a812ccb8ac9e6cfc07c546f1e500d2f88f") false
    connectUnique_row (fun _ h => by cases h) (by kernel_rfl) (fun _ h => by cases h) connectUnique_row_tie rfl ⟨rfl, rfl⟩ (by kernel_rfl) rfl
    (fun f fn hf hfn => by
      obtain rfl : f = 3 := Option.some.inj (connectUnique_named.symm.trans hf) |>.symm
      obtain rfl : fn = Tryz.f3 := (Option.some.inj (Tryz.func3.symm.trans hfn)).symm
      exact ⟨by kernel_rfl, fun j t ht => by
        rw [Tryz.params3] at ht
        have hm : t ∈ [24, 22] := by
          have := Array.mem_of_getElem? ht
          simpa using this
        have hall : ([24, 22].all fun u => !Tryz.prog.wantsStandIn u) = true := by kernel_rfl
        exact (show Tryz.prog.wantsStandIn t = false by simpa using List.all_eq_true.1 hall t hm)⟩)
    (by kernel_rfl)
#print axioms connectUnique_holds
end Go.Proofs.YtmjoijfafachhaaGreatDoor

