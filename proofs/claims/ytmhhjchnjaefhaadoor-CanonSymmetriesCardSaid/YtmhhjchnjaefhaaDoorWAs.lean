/- The walk of the law CanonSymmetries. -/
import Derived.WalkKit
import Derived.WalkSpells
import Derived.WalkLawsBesides
import Derived.Deep.AppendSrc
import Derived.Deep.LoopGhost
import Derived.Deep.QuietTactic
import Derived.Deep.RegionWith
import Derived.Deep.DeepMust
import Derived.Deep.DeepFit
import Derived.BigQuiet
import Derived.Lib.Hide
import Derived.Outline
import Derived.Test.YtmhhjchnjaefhaaDoorProg
import Derived.Deep.Matrix
import Derived.Deep.DeepCutAuto
import Derived.Deep.RegionLaw
import Derived.Deep.RegionHeld3
import Derived.Lib.SliceRun
import Derived.Shelf.Strings.Builder1
import Derived.Shelf.Small.Wraps
import Derived.Shelf.Strings.BuilderF
import Derived.Shelf.Strings.BuilderK
import Derived.Shelf.Strconv.Itoa0
import Derived.Shelf.Strconv.Itoa1
import Derived.Shelf.LaysM
import Derived.Shelf.Strconv.Itoa2
import Derived.Shelf.Strconv.Itoa3
import Derived.Shelf.Slices.Equal
import Derived.Ground.Names2Prog
import Derived.Shelf.Slices.Clone
import Derived.Shelf.Slices.SearchI
import Derived.Shelf.Slices.Empties2
import Derived.Ground.SlgnProg
import Derived.Shelf.SlicesE.Clone
import Derived.Sort.OwnSortedInts
import Derived.Shelf.Small.Bits
import Derived.Shelf.Sort.Plain
import Derived.Shelf.Slices.Turned
import Derived.Shelf.Slices.CompactI
import Derived.Shelf.Slices.Cells
import Derived.Shelf.Slices.In.SortNone
import Derived.Lib.AppendZeros
import Derived.Deep.RegionHeld
import Derived.Lib.Builder
import Derived.Lib.AppendStr
import Derived.Lib.Walk
import Derived.Laws.Externs
import Derived.Lib.AppendIntMem
import Derived.Test.YtmhhjchnjaefhaaDoorWAa
import Derived.Test.YtmhhjchnjaefhaaDoorWAb
import Derived.Test.YtmhhjchnjaefhaaDoorWAc
import Derived.Test.YtmhhjchnjaefhaaDoorWAd
import Derived.Test.YtmhhjchnjaefhaaDoorWAe
import Derived.Test.YtmhhjchnjaefhaaDoorWAf
import Derived.Test.YtmhhjchnjaefhaaDoorWAg
import Derived.Test.YtmhhjchnjaefhaaDoorWAh
import Derived.Test.YtmhhjchnjaefhaaDoorWAi
import Derived.Test.YtmhhjchnjaefhaaDoorWAj
import Derived.Test.YtmhhjchnjaefhaaDoorWAk
import Derived.Test.YtmhhjchnjaefhaaDoorWAl
import Derived.Test.YtmhhjchnjaefhaaDoorWAm
import Derived.Test.YtmhhjchnjaefhaaDoorWAn
import Derived.Test.YtmhhjchnjaefhaaDoorWAo
import Derived.Test.YtmhhjchnjaefhaaDoorWAp
import Derived.Test.YtmhhjchnjaefhaaDoorWAq
import Derived.Test.YtmhhjchnjaefhaaDoorWAr
namespace Go.Proofs.YtmhhjchnjaefhaaDoor
open Go Go.RowKit
theorem count_is {S M : List Int} {L : Int} (hv : vldB S M L = true) (h5 : S.length ≤ 5) :
    runL (fun (s : Int) o => (if eqD (partS S o) (partM M o) L S M L = true then wrap64 (s + 1) else s, true)) 0 (exts S.length S.length []) = (symV S M S.length, true) := by
  have hf : (exts S.length S.length []).length ≤ 3125 := Nat.le_trans (exts_few h5 _ _ h5) (Nat.pow_le_pow_right (by decide) h5)
  rw [runL_count (fun o => eqD (partS S o) (partM M o) L S M L) _ 0 (by decide) (by omega), Int.zero_add, sym_count hv h5]
set_option maxRecDepth 100000 in
set_option maxHeartbeats 8000000 in
theorem lsyl_1 (S M : List Int) (L : Int) (aS aM : Option Addr) (cS cM : Nat) (w : World) (ht : Pow10 w) (ha : 5 < S.length) :
    Calls Tryd.prog 4 #[.agg #[.slice aS S.length cS, .slice aM M.length cM, .int .i64 L]] w fun e w' => e = .returned (.bool true) ∧ Below w.heap.size w w' := by
  have HA : Hid (∀ W', Below w.heap.size w W' → Calls Tryd.prog 11 #[] W' fun e w' => e = .returned (.bool true) ∧ Below W'.heap.size W' w') := Lib.hid fun W' h => awake_any W' (ht.later h)
  have tt : decide ((5 : Int) < (S.length : Int)) = true := decide_eq_true (by omega)
  have uu : decide (5 < S.length) = true := decide_eq_true (by omega)
  have H0 := Lib.hid ((HH.start w).alloc #[.slice aS S.length cS, .slice aM M.length cM, .int .i64 L] 24 rfl rfl)
  clear ha ht
  generalize S.length = n at *
  generalize M.length = N at *
  go_enter Tryd.func4, Tryd.ntmps4
  go_wp2_with fail
  refine (HA.out _ H0.out.below).mono ?_
  rintro e w1 ⟨rfl, hb⟩
  have H1 := Lib.hid (H0.out.call hb)
  clear hb H0 
  have k00 := H1.out.cell (k := 0) (i := 0) rfl rfl
  have k01 := H1.out.cell (k := 0) (i := 1) rfl rfl
  have k02 := H1.out.cell (k := 0) (i := 2) rfl rfl
  go_wp2_with fail
  go_ret
  exact ⟨rfl, H1.out.below⟩
set_option maxRecDepth 100000 in
set_option maxHeartbeats 8000000 in
theorem lsyl_2 (S M : List Int) (L : Int) (aS aM : Option Addr) (cS cM : Nat) (w : World) (ht : Pow10 w) (ha : S.length ≤ 5) (hv : vldB S M L = false) (hS : IntsAt w aS S) (hM : IntsAt w aM M) :
    Calls Tryd.prog 4 #[.agg #[.slice aS S.length cS, .slice aM M.length cM, .int .i64 L]] w fun e w' => e = .returned (.bool true) ∧ Below w.heap.size w w' := by
  have HA : Hid (∀ W', Below w.heap.size w W' → Calls Tryd.prog 11 #[] W' fun e w' => e = .returned (.bool true) ∧ Below W'.heap.size W' w') := Lib.hid fun W' h => awake_any W' (ht.later h)
  have tt : decide ((5 : Int) < (S.length : Int)) = false := decide_eq_false (by omega)
  have uu : decide (5 < S.length) = false := decide_eq_false (by omega)
  have HV : Hid (∀ W', Below w.heap.size w W' → Calls Tryd.prog 18 #[.agg #[.slice aS S.length cS, .slice aM M.length cM, .int .i64 L]] W' fun e w' => e = .returned (.bool false) ∧ Below W'.heap.size W' w') := Lib.hid fun W' h => by
    have g := valid_all S M L aS aM cS cM W' (by omega) (hS.later h) (hM.later h)
    rw [hv] at g; exact g
  have H0 := Lib.hid ((HH.start w).alloc #[.slice aS S.length cS, .slice aM M.length cM, .int .i64 L] 24 rfl rfl)
  clear ha ht hv hS hM
  generalize S.length = n at *
  generalize M.length = N at *
  go_enter Tryd.func4, Tryd.ntmps4
  go_wp2_with fail
  refine (HA.out _ H0.out.below).mono ?_
  rintro e w1 ⟨rfl, hb⟩
  have H1 := Lib.hid (H0.out.call hb)
  clear hb H0 
  have k00 := H1.out.cell (k := 0) (i := 0) rfl rfl
  have k01 := H1.out.cell (k := 0) (i := 1) rfl rfl
  have k02 := H1.out.cell (k := 0) (i := 2) rfl rfl
  go_wp2_with fail
  clear k00 k01 k02
  refine (HV.out _ H1.out.below).mono ?_
  rintro e w2 ⟨rfl, hb⟩
  have H2 := Lib.hid (H1.out.call hb)
  clear hb H1 
  have k00 := H2.out.cell (k := 0) (i := 0) rfl rfl
  have k01 := H2.out.cell (k := 0) (i := 1) rfl rfl
  have k02 := H2.out.cell (k := 0) (i := 2) rfl rfl
  go_wp2_with fail
  go_ret
  exact ⟨rfl, H2.out.below⟩
set_option maxRecDepth 100000 in
set_option maxHeartbeats 8000000 in
theorem lsyl_3 (S M : List Int) (L : Int) (aS aM : Option Addr) (cS cM : Nat) (w : World) (ht : Pow10 w) (ha : S.length ≤ 5) (hv : vldB S M L = true) (hS : IntsAt w aS S) (hM : IntsAt w aM M) :
    Calls Tryd.prog 4 #[.agg #[.slice aS S.length cS, .slice aM M.length cM, .int .i64 L]] w fun e w' => e = .returned (.bool true) ∧ Below w.heap.size w w' := by
  have HA : Hid (∀ W', Below w.heap.size w W' → Calls Tryd.prog 11 #[] W' fun e w' => e = .returned (.bool true) ∧ Below W'.heap.size W' w') := Lib.hid fun W' h => awake_any W' (ht.later h)
  have tt : decide ((5 : Int) < (S.length : Int)) = false := decide_eq_false (by omega)
  have uu : decide (5 < S.length) = false := decide_eq_false (by omega)
  have HV : Hid (∀ W', Below w.heap.size w W' → Calls Tryd.prog 18 #[.agg #[.slice aS S.length cS, .slice aM M.length cM, .int .i64 L]] W' fun e w' => e = .returned (.bool true) ∧ Below W'.heap.size W' w') := Lib.hid fun W' h => by
    have g := valid_all S M L aS aM cS cM W' (by omega) (hS.later h) (hM.later h)
    rw [hv] at g; exact g
  have HO : Hid (∀ (q : Nat) (W' : World), HH w W' [(w.heap.size, rowO 24 [.slice aS S.length cS, .slice aM M.length cM, .int .i64 L]), (q, rowO 3 [.int .i64 0])] [] → Calls Tryd.prog 19 #[.int .i64 (S.length : Int), .slice none 0 0, .func (.func 20) #[] #[.pointer (some ⟨w.heap.size, 0, none⟩), .pointer (some ⟨q, 0, none⟩)]] W' fun e w' => ∃ b, e = .returned (.bool b) ∧ Hid (HH w w' [(w.heap.size, rowO 24 [.slice aS S.length cS, .slice aM M.length cM, .int .i64 L]), (q, rowO 3 [.int .i64 (symV S M S.length)])] [])) := Lib.hid fun q W' h => by
    have hV := visS_any S M L aS aM cS cM w.heap.size q w hv hS hM
    have g := ordsS_any w S.length _ w.heap.size q _ ha (fun s => ⟨rowO 3 [.int .i64 s], List.mem_cons_of_mem _ List.mem_cons_self⟩) hV S.length 0 [] none 0 W' h List.nodup_nil (fun x hx => by simp at hx) (by simp) (IntsAt.nil _ _) (fun x hx => by cases hx)
    rw [runX_ext, count_is hv ha] at g
    exact g.mono fun e w' ⟨e1, e2, _⟩ => ⟨_, e1, Lib.hid e2⟩
  have HY : Hid (∀ W', Below w.heap.size w W' → Calls Tryd.prog 15 #[.agg #[.slice aS S.length cS, .slice aM M.length cM, .int .i64 L]] W' fun e w' => e = .returned (.int .i64 (symV S M S.length)) ∧ Below W'.heap.size W' w') := Lib.hid fun W' h => sym_yes S M L aS aM cS cM W' hv (by omega) (hS.later h) (hM.later h)
  generalize symV S M S.length = sv at *
  have tss : (sv == sv) = true := beq_self_eq_true _
  have H0 := Lib.hid ((HH.start w).alloc #[.slice aS S.length cS, .slice aM M.length cM, .int .i64 L] 24 rfl rfl)
  clear ht hv hS hM
  generalize S.length = n at *
  generalize M.length = N at *
  go_enter Tryd.func4, Tryd.ntmps4
  go_wp2_with fail
  refine (HA.out _ H0.out.below).mono ?_
  rintro e w1 ⟨rfl, hb⟩
  have H1 := Lib.hid (H0.out.call hb)
  clear hb H0 
  have k00 := H1.out.cell (k := 0) (i := 0) rfl rfl
  have k01 := H1.out.cell (k := 0) (i := 1) rfl rfl
  have k02 := H1.out.cell (k := 0) (i := 2) rfl rfl
  go_wp2_with fail
  clear k00 k01 k02
  refine (HV.out _ H1.out.below).mono ?_
  rintro e w2 ⟨rfl, hb⟩
  have H2 := Lib.hid (H1.out.call hb)
  clear hb H1 
  have k00 := H2.out.cell (k := 0) (i := 0) rfl rfl
  have k01 := H2.out.cell (k := 0) (i := 1) rfl rfl
  have k02 := H2.out.cell (k := 0) (i := 2) rfl rfl
  have H4 := Lib.hid (H2.out.alloc #[.int .i64 0] 3 (b := w2.heap.size) rfl rfl)
  go_upto_region 6 with fail
  clear k00 k01 k02
  clear H2
  generalize w2.alloc (.cells #[.int .i64 0] 3) = v3 at *
  generalize w2.heap.size = q at *
  have j0 := H4.out.cell (k := 0) (i := 0) rfl rfl
  go_wp2_with fail
  clear j0
  refine (HO.out q v3 H4.out).mono ?_
  rintro e w5 ⟨b5, rfl, H5⟩
  clear H4 HO
  go_upto_region 7 with fail
  have HQ : Hid (∀ W', Below w5.heap.size w5 W' → W'.cell? ⟨w.heap.size, 0, none⟩ = some (.slice aS n cS) ∧ W'.cell? ⟨w.heap.size, 1, none⟩ = some (.slice aM N cM) ∧ W'.cell? ⟨w.heap.size, 2, none⟩ = some (.int .i64 L) ∧ W'.cell? ⟨q, 0, none⟩ = some (.int .i64 sv)) := Lib.hid fun W' h => by
    have h1 := H5.out.call h
    exact ⟨(h1.cell (k := 0) (i := 0) rfl rfl), (h1.cell (k := 0) (i := 1) rfl rfl), (h1.cell (k := 0) (i := 2) rfl rfl), (h1.cell (k := 1) (i := 0) rfl rfl)⟩
  have HD : Hid (∀ W', Below w5.heap.size w5 W' → Below w.heap.size w W') := Lib.hid fun W' h => below_of H5.out.below h H5.out.below.size
  have B0 : Hid (Below w5.heap.size w5 w5.drew) := Lib.hid (Below.refl _ _).drew
  have Q0 := Lib.hid (HQ.out _ B0.out)
  go_region_held3 (fun W' => W'.cell? ⟨w.heap.size, 0, none⟩ = some (.slice aS n cS) ∧ W'.cell? ⟨w.heap.size, 1, none⟩ = some (.slice aM N cM) ∧ W'.cell? ⟨w.heap.size, 2, none⟩ = some (.int .i64 L) ∧ W'.cell? ⟨q, 0, none⟩ = some (.int .i64 sv))
    (first
      | with_reducible exact Q0.out
      | with_reducible exact Q1.out)
    (first
      | ((with_reducible refine (HY.out _ (HD.out _ B0.out)).mono ?_); rintro e z1 ⟨rfl, hb⟩; have B1 := Lib.hid (B0.out.trans (hb.mono B0.out.size)); have Q1 := Lib.hid (HQ.out _ B1.out); clear hb))
  go_wp2_with fail
  go_ret
  exact ⟨rfl, HD.out _ B1.out⟩
theorem lsyl_any (S M : List Int) (L : Int) (aS aM : Option Addr) (cS cM : Nat) (w : World) (ht : Pow10 w) (_ : S.length ≤ maxLen) (_ : M.length ≤ maxLen) (_ : (Lit.int .i64 L).wf = true) (hS : IntsAt w aS S) (hM : IntsAt w aM M) :
    Calls Tryd.prog 4 #[.agg #[.slice aS S.length cS, .slice aM M.length cM, .int .i64 L]] w fun e w' => e = .returned (.bool true) ∧ Below w.heap.size w w' := by
  by_cases ha : S.length ≤ 5
  · cases hv : vldB S M L
    · exact lsyl_2 S M L aS aM cS cM w ht ha hv hS hM
    · exact lsyl_3 S M L aS aM cS cM w ht ha hv hS hM
  · exact lsyl_1 S M L aS aM cS cM w ht (by omega)
end Go.Proofs.YtmhhjchnjaefhaaDoor

