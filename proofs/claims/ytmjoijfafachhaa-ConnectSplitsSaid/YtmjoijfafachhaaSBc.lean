/- The walk of the law ConnectSplits. -/
import Derived.WalkKit
import Derived.WalkSpells
import Derived.WalkLawsBesides
import Derived.Deep.AppendSrc
import Derived.Deep.LoopGhost
import Derived.Deep.QuietTactic
import Derived.Deep.RegionWith
import Derived.Deep.DeepMust
import Derived.Deep.DeepFit
import Derived.BigQuiet
import Derived.Lib.Hide
import Derived.Outline
import Derived.Test.YtmjoijfafachhaaProg
import Derived.Deep.Matrix
import Derived.Deep.DeepCutAuto
import Derived.Deep.RegionLaw
import Derived.Deep.RegionHeld3
import Derived.Lib.SliceRun
import Derived.Shelf.Small.Bits
import Derived.Shelf.Small.Wraps
import Derived.Shelf.Strconv.Itoa0
import Derived.Shelf.Sort.Plain
import Derived.Shelf.Slices.Turned
import Derived.Shelf.Slices.Equal
import Derived.Ground.Names2Prog
import Derived.Shelf.Slices.Clone
import Derived.Shelf.Slices.CompactI
import Derived.Shelf.Slices.SearchI
import Derived.Shelf.Slices.Cells
import Derived.Shelf.Slices.In.SortNone
import Derived.Shelf.Slices.Empties2
import Derived.Ground.SlgnProg
import Derived.Shelf.SlicesE.Clone
import Derived.Sort.OwnSortedInts
import Derived.Lib.AppendZeros
import Derived.Deep.RegionHeld
import Derived.Test.YtmjoijfafachhaaSAa
import Derived.Test.YtmjoijfafachhaaSAb
import Derived.Test.YtmjoijfafachhaaSAc
import Derived.Test.YtmjoijfafachhaaSAd
import Derived.Test.YtmjoijfafachhaaSAe
import Derived.Test.YtmjoijfafachhaaSAf
import Derived.Test.YtmjoijfafachhaaSAg
import Derived.Test.YtmjoijfafachhaaSAh
import Derived.Test.YtmjoijfafachhaaSAi
import Derived.Test.YtmjoijfafachhaaSAj
import Derived.Test.YtmjoijfafachhaaSAk
import Derived.Test.YtmjoijfafachhaaSAl
import Derived.Test.YtmjoijfafachhaaSAm
import Derived.Test.YtmjoijfafachhaaSAn
import Derived.Test.YtmjoijfafachhaaSAo
import Derived.Test.YtmjoijfafachhaaSAp
import Derived.Test.YtmjoijfafachhaaSAq
import Derived.Test.YtmjoijfafachhaaSAr
import Derived.Test.YtmjoijfafachhaaSAs
import Derived.Test.YtmjoijfafachhaaSAt
import Derived.Test.YtmjoijfafachhaaSAu
import Derived.Test.YtmjoijfafachhaaSAv
import Derived.Test.YtmjoijfafachhaaSAw
import Derived.Test.YtmjoijfafachhaaSAx
import Derived.Test.YtmjoijfafachhaaSAy
import Derived.Test.YtmjoijfafachhaaSAz
import Derived.Test.YtmjoijfafachhaaSBa
import Derived.Test.YtmjoijfafachhaaSBb
namespace Go.Proofs.Ytmjoijfafachhaa
open Go Go.RowKit
/-- The three cells of a diagram's box are written; numbers that are read stay. -/
theorem HH.put24 {w0 w : World} {y : Nat × (Obj → Prop)} {s : List SlO} {q : Nat} {v0 v1 v2 : Value} (h : HH w0 w [(q, rowO 24 [v0, v1, v2]), y] s) (u0 u1 u2 : Value) :
    HH w0 (((w.setCell ⟨q, 0, none⟩ u0).setCell ⟨q, 1, none⟩ u1).setCell ⟨q, 2, none⟩ u2) [(q, rowO 24 [u0, u1, u2]), y] s ∧
    (∀ (a : Option Addr) (xs : List Int), TI w w0.heap.size a xs → TI (((w.setCell ⟨q, 0, none⟩ u0).setCell ⟨q, 1, none⟩ u1).setCell ⟨q, 2, none⟩ u2) w0.heap.size a xs) := by
  have h1 := h.set (k := 0) rfl 0 u0
  have h2 := h1.set (k := 0) rfl 1 u1
  have h3 := h2.set (k := 0) rfl 2 u2
  have hr := h.row (k := 0) rfl
  have ho := hr.own (h.obj (k := 0) rfl).1
  have t1 := turned_set w q 0 0 u0
  have t2 := turned_set (w.setCell ⟨q, 0, none⟩ u0) q 0 1 u1
  have t3 := turned_set ((w.setCell ⟨q, 0, none⟩ u0).setCell ⟨q, 1, none⟩ u1) q 0 2 u2
  have tt := (t1.trans' t2).trans' t3
  exact ⟨h3, fun a xs ht => ht.turned (by decide) (Nat.le_refl _) ho tt⟩
set_option maxRecDepth 100000 in
set_option maxHeartbeats 2000000 in
theorem lspl_great (S M : List Int) (L : Int) (aS aM : Option Addr) (cS cM : Nat) (w : World) (hg : greatB S M L = true) :
    Calls Try.prog 3 #[.agg #[.slice aS S.length cS, .slice aM M.length cM, .int .i64 L]] w fun e w' => e = .returned (.bool true) ∧ Below w.heap.size w w' := by
  have HG : Hid (∀ W', Calls Try.prog 13 #[.agg #[.slice aS S.length cS, .slice aM M.length cM, .int .i64 L]] W' fun e w' => e = .returned (.bool true) ∧ Below W'.heap.size W' w') := Lib.hid fun W' => by
    have g := great_any S M L aS aM cS cM W'
    rw [hg] at g; exact g
  have H0 := Lib.hid ((HH.start w).alloc #[.slice aS S.length cS, .slice aM M.length cM, .int .i64 L] 24 rfl rfl)
  clear hg
  go_enter Try.func3, Try.ntmps3
  go_wp2_with fail
  refine (awake_any _).mono ?_
  rintro e w1 ⟨rfl, hb⟩
  have H1 := Lib.hid (H0.out.call hb)
  clear hb H0 
  have k00 := H1.out.cell (k := 0) (i := 0) rfl rfl
  have k01 := H1.out.cell (k := 0) (i := 1) rfl rfl
  have k02 := H1.out.cell (k := 0) (i := 2) rfl rfl
  go_wp2_with fail
  clear k00 k01 k02
  refine (HG.out _).mono ?_
  rintro e w2 ⟨rfl, hb⟩
  have H2 := Lib.hid (H1.out.call hb)
  clear hb H1 
  go_wp2_with fail
  go_ret
  exact ⟨rfl, H2.out.below⟩
set_option maxRecDepth 100000 in
set_option maxHeartbeats 2000000 in
theorem lspl_no (S M : List Int) (L : Int) (aS aM : Option Addr) (cS cM : Nat) (w : World) (hg : greatB S M L = false) (hv : vldB S M L = false) (hS : IntsAt w aS S) (hM : IntsAt w aM M) :
    Calls Try.prog 3 #[.agg #[.slice aS S.length cS, .slice aM M.length cM, .int .i64 L]] w fun e w' => e = .returned (.bool true) ∧ Below w.heap.size w w' := by
  obtain ⟨hg1, hg2⟩ := greatB_no hg
  have HG : Hid (∀ W', Calls Try.prog 13 #[.agg #[.slice aS S.length cS, .slice aM M.length cM, .int .i64 L]] W' fun e w' => e = .returned (.bool false) ∧ Below W'.heap.size W' w') := Lib.hid fun W' => by
    have g := great_any S M L aS aM cS cM W'
    rw [hg] at g; exact g
  have HRV : Hid (∀ W', Below w.heap.size w W' → Calls Try.prog 15 #[.agg #[.slice aS S.length cS, .slice aM M.length cM, .int .i64 L]] W' fun e w' => e = .returned (.bool false) ∧ Below W'.heap.size W' w') := Lib.hid fun W' h => by
    have g := rvalid_any S M L aS aM cS cM W' (by omega) (by omega) (hS.later h) (hM.later h)
    rw [hv] at g; exact g
  have HSp : Hid (∀ W', Below w.heap.size w W' → Calls Try.prog 14 #[.agg #[.slice aS S.length cS, .slice aM M.length cM, .int .i64 L]] W' fun e w' => e = .returned (.slice none 0 0) ∧ Below W'.heap.size W' w') := Lib.hid fun W' h => split_no S M L aS aM cS cM W' (by omega) (by omega) hv (hS.later h) (hM.later h)
  have H0 := Lib.hid ((HH.start w).alloc #[.slice aS S.length cS, .slice aM M.length cM, .int .i64 L] 24 rfl rfl)
  clear hg hv hS hM
  generalize S.length = n at *
  generalize M.length = N at *
  go_enter Try.func3, Try.ntmps3
  go_wp2_with fail
  refine (awake_any _).mono ?_
  rintro e w1 ⟨rfl, hb⟩
  have H1 := Lib.hid (H0.out.call hb)
  clear hb H0 
  have k00 := H1.out.cell (k := 0) (i := 0) rfl rfl
  have k01 := H1.out.cell (k := 0) (i := 1) rfl rfl
  have k02 := H1.out.cell (k := 0) (i := 2) rfl rfl
  go_wp2_with fail
  clear k00 k01 k02
  refine (HG.out _).mono ?_
  rintro e w2 ⟨rfl, hb⟩
  have H2 := Lib.hid (H1.out.call hb)
  clear hb H1 
  have k00 := H2.out.cell (k := 0) (i := 0) rfl rfl
  have k01 := H2.out.cell (k := 0) (i := 1) rfl rfl
  have k02 := H2.out.cell (k := 0) (i := 2) rfl rfl
  go_wp2_with fail
  clear k00 k01 k02
  refine (HSp.out _ H2.out.below).mono ?_
  rintro e w3 ⟨rfl, hb⟩
  have H3 := Lib.hid (H2.out.call hb)
  clear hb H2 
  have k00 := H3.out.cell (k := 0) (i := 0) rfl rfl
  have k01 := H3.out.cell (k := 0) (i := 1) rfl rfl
  have k02 := H3.out.cell (k := 0) (i := 2) rfl rfl
  go_wp2_with fail
  clear k00 k01 k02
  refine (HRV.out _ H3.out.below).mono ?_
  rintro e w4 ⟨rfl, hb⟩
  have H4 := Lib.hid (H3.out.call hb)
  clear hb H3 
  go_wp2_with fail
  go_ret
  exact ⟨rfl, H4.out.below⟩
set_option maxRecDepth 100000 in
set_option maxHeartbeats 2000000 in
theorem lspl_yes (S M : List Int) (L : Int) (aS aM : Option Addr) (cS cM : Nat) (w : World) (hg : greatB S M L = false) (hv : vldB S M L = true) (hS : IntsAt w aS S) (hM : IntsAt w aM M) :
    Calls Try.prog 3 #[.agg #[.slice aS S.length cS, .slice aM M.length cM, .int .i64 L]] w fun e w' => e = .returned (.bool true) ∧ Below w.heap.size w w' := by
  obtain ⟨hg1, hg2⟩ := greatB_no hg
  have HG : Hid (∀ W', Calls Try.prog 13 #[.agg #[.slice aS S.length cS, .slice aM M.length cM, .int .i64 L]] W' fun e w' => e = .returned (.bool false) ∧ Below W'.heap.size W' w') := Lib.hid fun W' => by
    have g := great_any S M L aS aM cS cM W'
    rw [hg] at g; exact g
  have HRV : Hid (∀ W', Below w.heap.size w W' → Calls Try.prog 15 #[.agg #[.slice aS S.length cS, .slice aM M.length cM, .int .i64 L]] W' fun e w' => e = .returned (.bool true) ∧ Below W'.heap.size W' w') := Lib.hid fun W' h => by
    have g := rvalid_any S M L aS aM cS cM W' (by omega) (by omega) (hS.later h) (hM.later h)
    rw [hv] at g; exact g
  have hs := vldB_shape hv
  have hhi := hs.hi
  have hTl : (splitL S M L).length ≤ 1000 := by
    have := grp_len M S.length
    rw [splitL_len]; omega
  have HSp : Hid (∀ W', Below w.heap.size w W' → Calls Try.prog 14 #[.agg #[.slice aS S.length cS, .slice aM M.length cM, .int .i64 L]] W' fun e w' => ∃ A C, e = .returned (.slice A (splitL S M L).length C) ∧ RdD w' A (splitL S M L) ∧ Below W'.heap.size W' w') := Lib.hid fun W' h => (split_any S M L aS aM cS cM W' hv (hS.later h) (hM.later h) 0).mono fun e w' ⟨A, C, he, hd, hb⟩ => ⟨A, C, he, (hd (Nat.zero_le _)).rd, hb⟩
  have HRs : Hid (∀ W', Below w.heap.size w W' → Calls Try.prog 18 #[.agg #[.slice aS S.length cS, .slice aM M.length cM, .int .i64 L]] W' fun e w' => ∃ A C, e = .returned (.slice A (splitL S M L).length C) ∧ RdD w' A (splitL S M L) ∧ Below W'.heap.size W' w') := Lib.hid fun W' h => (rsplit_any S M L aS aM cS cM W' hv (hS.later h) (hM.later h) 0).mono fun e w' ⟨A, C, he, hd, hb⟩ => ⟨A, C, he, (hd (Nat.zero_le _)).rd, hb⟩
  have hget : ∀ i, i < (splitL S M L).length → (splitL S M L)[i]? = some ((splitL S M L).getD i ([], [], 0)) := fun i hi => getD_some hi
  have hsz : ∀ d ∈ splitL S M L, d.1.length ≤ 64 ∧ d.2.1.length ≤ 256 := fun d hd => by
    obtain ⟨i, hi, e⟩ := List.mem_iff_getElem.1 hd
    have h := part_bound hv hi (x := d) (by rw [List.getElem?_eq_getElem hi, e])
    have h1 := (vldB_shape h.1).few
    have h2 := (vldB_shape h.1).len
    exact ⟨h1, by omega⟩
  have HSm : Hid (∀ (A B : Option Addr) (C D : Nat) W', RdD W' A (splitL S M L) → RdD W' B (splitL S M L) → Calls Try.prog 17 #[.slice A (splitL S M L).length C, .slice B (splitL S M L).length D] W' fun e w' => e = .returned (.bool true) ∧ Below W'.heap.size W' w') := Lib.hid fun A B C D W' h1 h2 => same_any _ A B C D W' (by omega) (fun d hd => by have := hsz d hd; omega) h1 h2
  have HUn : Hid (∀ i, i < (splitL S M L).length → ∀ (a b a' b' : Option Addr) (c d c' d' : Nat) W', IntsAt W' a (uAll ((splitL S M L).take i)).1 → IntsAt W' b (uAll ((splitL S M L).take i)).2.1 → IntsAt W' a' ((splitL S M L).getD i ([], [], 0)).1 → IntsAt W' b' ((splitL S M L).getD i ([], [], 0)).2.1 →
      Calls Try.prog 16 #[.agg #[.slice a (uAll ((splitL S M L).take i)).1.length c, .slice b (uAll ((splitL S M L).take i)).2.1.length d, .int .i64 (uAll ((splitL S M L).take i)).2.2], .agg #[.slice a' ((splitL S M L).getD i ([], [], 0)).1.length c', .slice b' ((splitL S M L).getD i ([], [], 0)).2.1.length d', .int .i64 ((splitL S M L).getD i ([], [], 0)).2.2]] W' fun e w' => ∃ a b c d, e = .returned (.tuple #[.agg #[.slice a (uAll ((splitL S M L).take (i + 1))).1.length c, .slice b (uAll ((splitL S M L).take (i + 1))).2.1.length d, .int .i64 (uAll ((splitL S M L).take (i + 1))).2.2], .int .i64 0]) ∧ Own w' W'.heap.size 3 a c (ints (uAll ((splitL S M L).take (i + 1))).1) ∧ Own w' W'.heap.size 3 b d (ints (uAll ((splitL S M L).take (i + 1))).2.1) ∧ Below W'.heap.size W' w') := Lib.hid fun i hi a b a' b' c d c' d' W' h1 h2 h3 h4 => by
    have g1 := uAll_good hv i (Nat.le_of_lt hi)
    have g2 := part_bound hv hi (hget i hi)
    have e : uAll ((splitL S M L).take (i + 1)) = uni2 (uAll ((splitL S M L).take i)) ((splitL S M L).getD i ([], [], 0)) := by
      rw [List.take_add_one, hget i hi, Option.toList_some, uAll_snoc]
    have hx := g1.2.1
    have hy := g2.2.1
    have hz := g1.2.2.2
    have hu := g2.2.2.2
    have key := union_yes _ _ _ a b c d _ _ _ a' b' c' d' W' g1.1 g2.1 (by omega) (by
      have := (vldB_shape (uAll_good hv (i + 1) hi).1).hi
      rw [e] at this
      exact this) h1 h2 h3 h4
    rw [e]
    refine key.mono ?_
    rintro e2 w2 ⟨a2, b2, c2, d2, rfl, h5, h6, h7⟩
    refine ⟨a2, b2, c2, d2, ?_, h5, h6, h7⟩
    show _ = Ending.returned (.tuple #[.agg #[.slice a2 ((uAll ((splitL S M L).take i)).1 ++ ((splitL S M L).getD i ([], [], 0)).1).length c2, .slice b2 (uniM (uAll ((splitL S M L).take i)).2.1 ((splitL S M L).getD i ([], [], 0)).2.1).length d2, .int .i64 ((uAll ((splitL S M L).take i)).2.2 + ((splitL S M L).getD i ([], [], 0)).2.2)], .int .i64 0])
    rw [List.length_append, uniM_len]
  have HCs : Hid (∀ (a b : Option Addr) (c d : Nat) W', Below w.heap.size w W' → IntsAt W' a (uAll (splitL S M L)).1 → IntsAt W' b (uAll (splitL S M L)).2.1 → Calls Try.prog 19 #[.agg #[.slice a (uAll (splitL S M L)).1.length c, .slice b (uAll (splitL S M L)).2.1.length d, .int .i64 (uAll (splitL S M L)).2.2], .agg #[.slice aS S.length cS, .slice aM M.length cM, .int .i64 L]] W' fun e w' => e = .returned (.bool true) ∧ Below W'.heap.size W' w') := Lib.hid fun a b c d W' h h1 h2 => by
    have g1 := uAll_good hv (splitL S M L).length (Nat.le_refl _)
    rw [List.take_length] at g1
    have h3 := g1.2.1
    have h4 := (vldB_shape g1.1).len
    have key := csame_any _ _ (uAll (splitL S M L)).2.2 a b c d S M L aS aM cS cM W' (by omega) (by omega) (by omega) (by omega) (by omega) (by omega) h1 h2 (hS.later h) (hM.later h)
    have e : cSame (uAll (splitL S M L)).1 (uAll (splitL S M L)).2.1 (uAll (splitL S M L)).2.2 S M L = true := by
      unfold cSame
      rw [g1.1, hv, uAll_code hv, decide_eq_true rfl]; rfl
    rw [e] at key
    exact key
  have HU0 : Hid (uAll ((splitL S M L).take 0) = ([], [], 0)) := Lib.hid rfl
  have H0 := Lib.hid ((HH.start w).alloc #[.slice aS S.length cS, .slice aM M.length cM, .int .i64 L] 24 rfl rfl)
  clear hg hv hS hM hsz hget hs
  generalize splitL S M L = T at *
  generalize S.length = n at *
  generalize M.length = N at *
  go_enter Try.func3, Try.ntmps3
  go_wp2_with fail
  refine (awake_any _).mono ?_
  rintro e w1 ⟨rfl, hb⟩
  have H1 := Lib.hid (H0.out.call hb)
  clear hb H0 
  have k00 := H1.out.cell (k := 0) (i := 0) rfl rfl
  have k01 := H1.out.cell (k := 0) (i := 1) rfl rfl
  have k02 := H1.out.cell (k := 0) (i := 2) rfl rfl
  go_wp2_with fail
  clear k00 k01 k02
  refine (HG.out _).mono ?_
  rintro e w2 ⟨rfl, hb⟩
  have H2 := Lib.hid (H1.out.call hb)
  clear hb H1 
  have k00 := H2.out.cell (k := 0) (i := 0) rfl rfl
  have k01 := H2.out.cell (k := 0) (i := 1) rfl rfl
  have k02 := H2.out.cell (k := 0) (i := 2) rfl rfl
  go_wp2_with fail
  clear k00 k01 k02
  refine (HSp.out _ H2.out.below).mono ?_
  rintro e w3 ⟨A3, C3, rfl, hd, hb⟩
  have H3 := Lib.hid (H2.out.call hb)
  have O3 : Hid (∀ W', Below w3.heap.size w3 W' → RdD W' A3 T ∧ HH w W' [(w.heap.size, rowO 24 [.slice aS n cS, .slice aM N cM, .int .i64 L])] []) := Lib.hid fun W' h => ⟨hd.later h, H3.out.call h⟩
  clear hd hb H2 HSp
  have k00 := H3.out.cell (k := 0) (i := 0) rfl rfl
  have k01 := H3.out.cell (k := 0) (i := 1) rfl rfl
  have k02 := H3.out.cell (k := 0) (i := 2) rfl rfl
  go_wp2_with fail
  clear k00 k01 k02
  refine (HRV.out _ H3.out.below).mono ?_
  rintro e w4 ⟨rfl, hb⟩
  have H4 := Lib.hid (H3.out.call hb)
  have B4 := Lib.hid hb
  clear hb H3 
  have J4 := Lib.hid (((HH.start w3).call B4.out).alloc #[.slice none 0 0, .slice none 0 0, .int .i64 0] 24 (b := w4.heap.size) rfl rfl)
  go_wp2_with fail
  clear B4 H4
  generalize w4.alloc (.cells #[.slice none 0 0, .slice none 0 0, .int .i64 0] 24) = v4 at *
  generalize w4.heap.size = ba at *
  go_loopg [22] T.length (fun g v wr => ∃ (i : Nat) (a b : Option Addr) (c d : Nat), i ≤ T.length ∧ g = T.length - i ∧ v = .int .i64 i ∧ Hid (TI wr w3.heap.size a (uAll (T.take i)).1 ∧ TI wr w3.heap.size b (uAll (T.take i)).2.1) ∧ HH w3 wr [(ba, rowO 24 [.slice a (uAll (T.take i)).1.length c, .slice b (uAll (T.take i)).2.1.length d, .int .i64 (uAll (T.take i)).2.2])] [])
  case atStart => exact ⟨0, none, none, 0, 0, Nat.zero_le _, rfl, rfl, Lib.hid ⟨TI.nil _ _, TI.nil _ _⟩, J4.out⟩
  case round =>
    obtain ⟨i, a, b, c, d, hi, rfl, rfl, HT, hh⟩ := hrel
    have Jr := Lib.hid hh
    clear hh J4
    by_cases hil : i < T.length
    · obtain ⟨b0, o0, a', c', e', f', rfl, h1, h2, h3, h4, h5⟩ := (O3.out _ Jr.out.below).1 i _ (getD_some (d := ([], [], 0)) hil)
      have HUx := Lib.hid (HUn.out i hil a b a' e' c d c' f')
      generalize T.getD i ([], [], 0) = dd at *
      obtain ⟨Sd, Md, Ld⟩ := dd
      dsimp only at *
      have HI := Lib.hid (And.intro h4 h5)
      clear h4 h5
      generalize E1 : (uAll (T.take (i + 1))).1.length = sl9 at *
      generalize E2 : (uAll (T.take (i + 1))).2.1.length = ml9 at *
      generalize E3 : (uAll (T.take (i + 1))).2.2 = Ll9 at *
      have E9 := Lib.hid (And.intro E1 (And.intro E2 E3))
      clear E1 E2 E3
      generalize (uAll (T.take i)).1.length = sl8 at *
      generalize (uAll (T.take i)).2.1.length = ml8 at *
      generalize (uAll (T.take i)).2.2 = Ll8 at *
      generalize Sd.length = sl at *
      generalize Md.length = ml at *
      have K0 := Lib.hid (Jr.out.alloc #[.slice a' sl c', .slice e' ml f', .int .i64 Ld] 24 (b := wr.heap.size) rfl rfl)
      have HT1 := Lib.hid (And.intro (And.intro (HT.out.1.at.later ((Below.refl _ _).alloc (Nat.le_refl _) (.cells #[.slice a' sl c', .slice e' ml f', .int .i64 Ld] 24))) (HT.out.2.at.later ((Below.refl _ _).alloc (Nat.le_refl _) (.cells #[.slice a' sl c', .slice e' ml f', .int .i64 Ld] 24)))) (And.intro (HI.out.1.later ((Below.refl _ _).alloc (Nat.le_refl _) (.cells #[.slice a' sl c', .slice e' ml f', .int .i64 Ld] 24))) (HI.out.2.later ((Below.refl _ _).alloc (Nat.le_refl _) (.cells #[.slice a' sl c', .slice e' ml f', .int .i64 Ld] 24)))))
      go_upto_region 12 with fail
      clear h1 h2 h3 Jr HI HT
      generalize wr.alloc (.cells #[.slice a' sl c', .slice e' ml f', .int .i64 Ld] 24) = v1 at *
      generalize wr.heap.size = r at *
      have y0 := K0.out.cell (k := 0) (i := 0) rfl rfl
      have y1 := K0.out.cell (k := 0) (i := 1) rfl rfl
      have y2 := K0.out.cell (k := 0) (i := 2) rfl rfl
      have x0 := K0.out.cell (k := 1) (i := 0) rfl rfl
      have x1 := K0.out.cell (k := 1) (i := 1) rfl rfl
      have x2 := K0.out.cell (k := 1) (i := 2) rfl rfl
      go_wp2_with fail
      clear y0 y1 y2 x0 x1 x2
      refine (HUx.out _ HT1.out.1.1 HT1.out.1.2 HT1.out.2.1 HT1.out.2.2).mono ?_
      rintro e5 w5 ⟨a5, b5, c5, d5, rfl, ho1, ho2, hb⟩
      have K1 := Lib.hid (K0.out.call hb)
      have HO := Lib.hid (And.intro ho1 ho2)
      clear ho1 ho2 hb K0 HT1
      have f0 := K1.out.frozen (k := 0) rfl 0
      have f1 := K1.out.frozen (k := 0) rfl 1
      have f2 := K1.out.frozen (k := 0) rfl 2
      have y0 := K1.out.cell (k := 0) (i := 0) rfl rfl
      have y1 := K1.out.cell (k := 0) (i := 1) rfl rfl
      have y2 := K1.out.cell (k := 0) (i := 2) rfl rfl
      go_wp2_with fail
      have P := Lib.hid (K1.out.put24 (.slice a5 sl9 c5) (.slice b5 ml9 d5) (.int .i64 Ll9))
      go_roundg (T.length - (i + 1))
      case measure => omega
      case rel =>
        refine ⟨i + 1, a5, b5, c5, d5, by omega, rfl, by go_num, Lib.hid ⟨P.out.2 _ _ (TI.own HO.out.1), P.out.2 _ _ (TI.own HO.out.2)⟩, ?_⟩
        rw [E9.out.1, E9.out.2.1, E9.out.2.2]
        exact P.out.1.forgetK (List.Sublist.cons_cons _ (List.nil_sublist _))
    · obtain rfl : i = T.length := by omega
      rw [List.take_length] at HT Jr
      have HCx := Lib.hid (HCs.out a b c d)
      have Hw := Lib.hid (O3.out _ Jr.out.below)
      clear HUn HCs
      generalize (uAll T).1.length = sl8 at *
      generalize (uAll T).2.1.length = ml8 at *
      generalize (uAll T).2.2 = Ll8 at *
      have k0 := Hw.out.2.cell (k := 0) (i := 0) rfl rfl
      have k1 := Hw.out.2.cell (k := 0) (i := 1) rfl rfl
      have k2 := Hw.out.2.cell (k := 0) (i := 2) rfl rfl
      go_wp2_with fail
      clear k0 k1 k2
      refine (HRs.out _ Hw.out.2.below).mono ?_
      rintro e w7 ⟨A7, C7, rfl, hd, hb⟩
      have H7 := Lib.hid (Hw.out.2.call hb)
      have J7 := Lib.hid (Jr.out.call hb)
      have R7 := Lib.hid (And.intro (Hw.out.1.later hb) hd)
      have T7 := Lib.hid (And.intro (HT.out.1.at.later hb) (HT.out.2.at.later hb))
      clear hd hb Hw Jr HT
      go_wp2_with fail
      refine (HSm.out A3 A7 C3 C7 _ R7.out.1 R7.out.2).mono ?_
      rintro e w8 ⟨rfl, hb⟩
      have H8 := Lib.hid (H7.out.call hb)
      have J8 := Lib.hid (J7.out.call hb)
      have T8 := Lib.hid (And.intro (T7.out.1.later hb) (T7.out.2.later hb))
      clear hb H7 J7 R7 T7
      have k0 := H8.out.cell (k := 0) (i := 0) rfl rfl
      have k1 := H8.out.cell (k := 0) (i := 1) rfl rfl
      have k2 := H8.out.cell (k := 0) (i := 2) rfl rfl
      have y0 := J8.out.cell (k := 0) (i := 0) rfl rfl
      have y1 := J8.out.cell (k := 0) (i := 1) rfl rfl
      have y2 := J8.out.cell (k := 0) (i := 2) rfl rfl
      go_wp2_with fail
      clear k0 k1 k2 y0 y1 y2
      refine (HCx.out _ H8.out.below T8.out.1 T8.out.2).mono ?_
      rintro e w9 ⟨rfl, hb⟩
      have H9 := Lib.hid (H8.out.call hb)
      clear hb H8
      go_wp2_with fail
      go_ret
      exact ⟨rfl, H9.out.below⟩
theorem lspl_any (S M : List Int) (L : Int) (aS aM : Option Addr) (cS cM : Nat) (w : World) (_ : S.length ≤ maxLen) (_ : M.length ≤ maxLen) (_ : (Lit.int .i64 L).wf = true) (hS : IntsAt w aS S) (hM : IntsAt w aM M) :
    Calls Try.prog 3 #[.agg #[.slice aS S.length cS, .slice aM M.length cM, .int .i64 L]] w fun e w' => e = .returned (.bool true) ∧ Below w.heap.size w w' := by
  cases hg : greatB S M L
  · cases hv : vldB S M L
    · exact lspl_no S M L aS aM cS cM w hg hv hS hM
    · exact lspl_yes S M L aS aM cS cM w hg hv hS hM
  · exact lspl_great S M L aS aM cS cM w hg
end Go.Proofs.Ytmjoijfafachhaa

