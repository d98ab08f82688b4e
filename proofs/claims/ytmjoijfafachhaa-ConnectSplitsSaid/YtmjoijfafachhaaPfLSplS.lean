/- ConnectSplits: Split returns the specified parts, and their union is the diagram up to the numbers of its crossings; for all diagrams (the law itself looks at 14 crossings at most). -/
import Derived.WalkKit
import Derived.WalkSpells
import Derived.WalkLawsBesides
import Derived.Deep.AppendSrc
import Derived.Deep.LoopGhost
import Derived.Deep.QuietTactic
import Derived.Deep.RegionWith
import Derived.Deep.DeepMust
import Derived.Deep.DeepFit
import Derived.BigQuiet
import Derived.Lib.Hide
import Derived.Outline
import Derived.Test.YtmjoijfafachhaaRows
import Derived.ProofKit
import Derived.OpenShut
import Derived.ShutString
import Derived.ChangeOld
import Derived.Below
import Derived.Lib.SmallJoins
import Derived.Test.YtmjoijfafachhaaProg
import Derived.Deep.Matrix
import Derived.Deep.DeepCutAuto
import Derived.Deep.RegionLaw
import Derived.Deep.RegionHeld3
import Derived.Lib.SliceRun
import Derived.Shelf.Small.Bits
import Derived.Shelf.Small.Wraps
import Derived.Shelf.Strconv.Itoa0
import Derived.Shelf.Sort.Plain
import Derived.Shelf.Slices.Turned
import Derived.Shelf.Slices.Equal
import Derived.Ground.Names2Prog
import Derived.Shelf.Slices.Clone
import Derived.Shelf.Slices.CompactI
import Derived.Shelf.Slices.SearchI
import Derived.Shelf.Slices.Cells
import Derived.Shelf.Slices.In.SortNone
import Derived.Shelf.Slices.Empties2
import Derived.Ground.SlgnProg
import Derived.Shelf.SlicesE.Clone
import Derived.Sort.OwnSortedInts
import Derived.Lib.AppendZeros
import Derived.Deep.RegionHeld
import Derived.Test.YtmjoijfafachhaaSAa
import Derived.Test.YtmjoijfafachhaaSAb
import Derived.Test.YtmjoijfafachhaaSAc
import Derived.Test.YtmjoijfafachhaaSAd
import Derived.Test.YtmjoijfafachhaaSAe
import Derived.Test.YtmjoijfafachhaaSAf
import Derived.Test.YtmjoijfafachhaaSAg
import Derived.Test.YtmjoijfafachhaaSAh
import Derived.Test.YtmjoijfafachhaaSAi
import Derived.Test.YtmjoijfafachhaaSAj
import Derived.Test.YtmjoijfafachhaaSAk
import Derived.Test.YtmjoijfafachhaaSAl
import Derived.Test.YtmjoijfafachhaaSAm
import Derived.Test.YtmjoijfafachhaaSAn
import Derived.Test.YtmjoijfafachhaaSAo
import Derived.Test.YtmjoijfafachhaaSAp
import Derived.Test.YtmjoijfafachhaaSAq
import Derived.Test.YtmjoijfafachhaaSAr
import Derived.Test.YtmjoijfafachhaaSAs
import Derived.Test.YtmjoijfafachhaaSAt
import Derived.Test.YtmjoijfafachhaaSAu
import Derived.Test.YtmjoijfafachhaaSAv
import Derived.Test.YtmjoijfafachhaaSAw
import Derived.Test.YtmjoijfafachhaaSAx
import Derived.Test.YtmjoijfafachhaaSAy
import Derived.Test.YtmjoijfafachhaaSAz
import Derived.Test.YtmjoijfafachhaaSBa
import Derived.Test.YtmjoijfafachhaaSBb
import Derived.Test.YtmjoijfafachhaaSBc
namespace Go.Proofs.Ytmjoijfafachhaa
open Go Go.RowKit Go.ChangeShapes Go.WideShapes Go.ChangeAt Go.Joins
theorem connectSplits_k0 : (Rows.connectSplitsRow.wf (OpenSpec.ofChange Rows.connectSplitsSpec)) = true := by kernel_rfl
theorem connectSplits_k3 : (Try.f3.params.all (Try.prog.readableRec ·)) = true := by kernel_rfl
theorem connectSplits_k4 : (namedTie Try.prog Rows.connectSplitsRow.named Rows.connectSplitsSpec.vars) = true := by kernel_rfl
theorem connectSplits_k5 : (Rows.connectSplitsRow.stops == []) = true := by kernel_rfl
theorem connectSplits_k7 : (Rows.connectSplitsRow.knobs == []) = true := by kernel_rfl
theorem connectSplits_k9 : (Rows.connectSplitsRow.inPlace == Try.prog.inPlace 3) = true := by kernel_rfl
theorem connectSplits_k10 : (Rows.connectSplitsRow.unfollowed == Try.prog.unfollowed 3) = true := by kernel_rfl
theorem connectSplits_k11 : (Rows.connectSplitsRow.recurses == Try.prog.recurses 3) = true := by kernel_rfl
theorem connectSplits_k12 : (Rows.connectSplitsRow.named == Try.prog.varsNamed 3) = true := by kernel_rfl
theorem connectSplits_k13 : (Rows.connectSplitsRow.maps == (Try.f3.params.toList ++ Rows.connectSplitsSpec.plain.varTypes Try.prog).any (Try.prog.mapsRec ·)) = true := by kernel_rfl
theorem connectSplits_k14 : (Rows.connectSplitsRow.ifaces == (Try.f3.params.toList ++ Rows.connectSplitsSpec.plain.varTypes Try.prog).any (Try.prog.ifacesRec ·)) = true := by kernel_rfl
theorem connectSplits_k15 : (Rows.connectSplitsRow.mapsOut == Try.prog.mapsAmong Try.f3.resultTypes.toList) = true := by kernel_rfl
theorem connectSplits_k16 : (Rows.connectSplitsRow.loops == (Try.f3.params.toList ++ Rows.connectSplitsSpec.plain.varTypes Try.prog).any (Try.prog.loopsFrom ·)) = true := by kernel_rfl
theorem connectSplits_k17 : (Rows.connectSplitsRow.wideKeys == (Try.f3.params.toList ++ Rows.connectSplitsSpec.plain.varTypes Try.prog ++ Try.f3.resultTypes.toList).any (Try.prog.wideKeysFrom ·)) = true := by kernel_rfl
theorem connectSplits_k18 : (Rows.connectSplitsSpec.vars.all (Try.prog.varReadable ·)) = true := by kernel_rfl
theorem connectSplits_k19 : (Try.f3.resultTypes.all (fun t => Try.prog.readableRec t && decide (t < Try.prog.types.size))) = true := by kernel_rfl
theorem connectSplits_k20 : (Rows.connectSplitsRow.ifacesOut == Try.f3.resultTypes.toList.any (Try.prog.ifacesRec ·)) = true := by kernel_rfl
theorem connectSplits_k21 : (Rows.connectSplitsRow.loopsOut == Try.f3.resultTypes.toList.any (Try.prog.loopsFrom ·)) = true := by kernel_rfl
theorem connectSplits_k22 : (Rows.connectSplitsRow.plainKeys == Try.prog.plainKeys) = true := by rw [prog_keys]; rfl
theorem connectSplits_k23 : (Rows.connectSplitsRow.shortTexts.isNone) = true := by kernel_rfl
theorem connectSplits_k26 : (Rows.connectSplitsRow.lifted == Try.prog.liftsFinal) = true := by rw [prog_final]; rfl
theorem connectSplits_k27 : (Try.prog.make == some Rows.connectSplitsRow.make) = true := by rw [prog_make]; rfl
theorem connectSplits_k28 : (Rows.connectSplitsRow.kinds == (if Rows.connectSplitsRow.domain.isEmpty then [] else Try.f3.params.toList.map fun t => match Try.prog.underlying t with | some (.int k) => some k | _ => none)) = true := by kernel_rfl
theorem connectSplits_k29 : (Rows.connectSplitsRow.pinned == Rows.connectSplitsRow.pinnedBy) = true := by kernel_rfl
theorem connectSplits_k30 : (Rows.connectSplitsRow.veiled == (Try.f3.params.toList ++ Rows.connectSplitsSpec.plain.varTypes Try.prog ++ Try.f3.resultTypes.toList).any (Try.prog.veiledRec ·)) = true := by kernel_rfl
theorem connectSplits_k31 : (Rows.connectSplitsRow.veiledFits Try.prog Try.f3.params.toList (Try.f3.params.toList ++ Rows.connectSplitsSpec.plain.varTypes Try.prog ++ Try.f3.resultTypes.toList)) = true := by kernel_rfl
set_option maxRecDepth 100000 in
theorem connectSplits_closed : joinedFacts Try.prog 3 Try.f3 Rows.connectSplitsSpec Rows.connectSplitsRow = true := (and2 (and2 (and2 (and2 (and2 (and2 (and2 (and2 (and2 (and2 (and2 (and2 (and2 (and2 (and2 (and2 (and2 (and2 (and2 (and2 (and2 (and2 (and2 (and2 (and2 (and2 (and2 (and2 (and2 (and2 (and2 connectSplits_k0 laidOut) prog_maps) connectSplits_k3) connectSplits_k4) connectSplits_k5) prog_stops) connectSplits_k7) prog_knobs) connectSplits_k9) connectSplits_k10) connectSplits_k11) connectSplits_k12) connectSplits_k13) connectSplits_k14) connectSplits_k15) connectSplits_k16) connectSplits_k17) connectSplits_k18) connectSplits_k19) connectSplits_k20) connectSplits_k21) connectSplits_k22) connectSplits_k23) prog_heard) prog_enter) connectSplits_k26) connectSplits_k27) connectSplits_k28) connectSplits_k29) connectSplits_k30) connectSplits_k31)
theorem connectSplits_named : Try.prog.funcNamed Rows.connectSplitsRow.func = some 3 := by kernel_rfl
theorem connectSplits_inst : Try.f3.isInstance Try.prog Rows.connectSplitsRow.origin Rows.connectSplitsRow.targs := of_decide_eq_true (by kernel_rfl)
theorem connectSplits_wrap : Try.f3.isWrapper Try.prog Rows.connectSplitsRow.wrapper Rows.connectSplitsRow.mainSum := by unfold Func.isWrapper; first | (rw [if_pos (by decide +kernel)]; kernel_rfl) | (rw [if_neg (by decide +kernel)]; exact ⟨rfl, rfl⟩)
set_option maxRecDepth 100000 in
theorem connectSplits_lifted (os : Os) (started : os.Started) (H : Type) (enc : TypeId × Value → H) :
    ReturnsInHanded {} Try.checked os 3 .any (Rows.connectSplitsSpec.pre6 enc Try.prog Try.f3 Rows.connectSplitsRow.domain false) (Rows.connectSplitsSpec.post enc Try.prog Try.f3 false true false false) := by
  refine returnsInHanded_of_change (C := Try.checked) own started (by kernel_rfl) Try.func3
    (ChangeSpec.witness6 (enc := enc) (C := Try.checked) false ⟨#[], #[.agg #[.slice none 0 0, .slice none 0 0, .int .i64 0]], []⟩ 8 (by kernel_rfl) (by kernel_rfl) (by kernel_rfl) (by kernel_rfl)) ?_
  intro W base args ds gs before hval0 hW hcnd _
  have hval : ∀ (j : Nat) t v, Try.f3.params[j]? = some t → args[j]? = some v → Value.okWide Try.prog W .any base t v := hval0
  have hW' := hW
  obtain ⟨p, q, hA0, hV, rfl, hfz, hnd⟩ := hW
  have hA : DataW.TrodAll enc Try.prog W 0 (fun _ => true) true Try.f3.params.toList args.toList ds p := hA0
  rw [Try.params3] at hA hval
  obtain ⟨v0, vs0, d0, ds0, p0, q0, hargs, rfl, rfl, h0, r0⟩ := trodAll_cons hA
  obtain ⟨rfl, rfl, rfl⟩ := trodAll_nil r0
  obtain rfl : args = #[v0] := by cases args; simp_all
  obtain ⟨rfl, rfl⟩ := trodVars_none hV
  obtain ⟨S0, M0, L0, aS0, aM0, cS0, cM0, rfl, hS0, hM0, lS0, lM0, wL0⟩ := open_diag (hval 0 24 v0 rfl rfl) h0
  have k0 := h0
  have lt0 : ∀ x ∈ p0, x.block < W.heap.size := by obtain ⟨m, hm⟩ := k0; exact DataW.trod_lt m _ _ _ hm
  clear hA0 hval0
  refine (lspl_any S0 M0 L0 aS0 aM0 cS0 cM0 W lS0 lM0 wL0 hS0 hM0).mono fun e W' ⟨he, bel⟩ => ?_
  subst he
  exact ⟨_, rfl, _, _, _, [], _, [], hW', trodAll_mk1 (shut_bool Try.underlying4 _), (trodAll_cons_mk (Below.trod laidOut (by kernel_rfl) (of_decide_eq_true (by kernel_rfl)) k0 bel lt0) trodAll_mk0), rfl, bel.frame _, fun h => by cases h⟩
theorem connectSplits_holds : Rows.ConnectSplitsSaid :=
  OpenClaim.holds_of_wide 3 Try.f3 rfl rfl rfl rfl rfl rfl rfl ⟨rfl, rfl, rfl, rfl, rfl⟩ rfl rfl rfl rfl rfl connectSplits_named Try.func3 connectSplits_closed connectSplits_inst connectSplits_wrap
    (fun os started H enc _ => connectSplits_lifted os started H enc)
#print axioms connectSplits_holds
end Go.Proofs.Ytmjoijfafachhaa

