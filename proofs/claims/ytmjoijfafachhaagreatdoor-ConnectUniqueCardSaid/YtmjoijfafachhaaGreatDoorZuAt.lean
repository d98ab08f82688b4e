/- cmp.Compare and slices.Compare. canon.pieces$1: two pieces compared, by their numbers of crossings and by their codes. Plain: pieces sorted by insertion. Plain: the code of a diagram; sorted lists of codes; the union of the parts. Plain: cuts of a diagram within another one. -/
import Derived.WalkKit
import Derived.WalkSpells
import Derived.WalkLawsBesides
import Derived.Deep.AppendSrc
import Derived.Deep.LoopGhost
import Derived.Deep.QuietTactic
import Derived.Deep.RegionWith
import Derived.Deep.DeepMust
import Derived.Deep.DeepFit
import Derived.BigQuiet
import Derived.Lib.Hide
import Derived.Outline
import Derived.Test.YtmjoijfafachhaaGreatDoorProg
import Derived.Deep.Matrix
import Derived.Deep.DeepCutAuto
import Derived.Deep.RegionLaw
import Derived.Deep.RegionHeld3
import Derived.Shelf.Strings.Builder1
import Derived.Shelf.Small.Bits
import Derived.Shelf.Small.Wraps
import Derived.Shelf.Strings.BuilderF
import Derived.Shelf.Strings.BuilderK
import Derived.Shelf.Strconv.Itoa0
import Derived.Shelf.Strconv.Itoa1
import Derived.Shelf.LaysM
import Derived.Shelf.Strconv.Itoa2
import Derived.Shelf.Strconv.Itoa3
import Derived.Shelf.Sort.Plain
import Derived.Shelf.Slices.Turned
import Derived.Shelf.Slices.Equal
import Derived.Ground.Names2Prog
import Derived.Shelf.Slices.Clone
import Derived.Shelf.Slices.CompactI
import Derived.Shelf.Slices.SearchI
import Derived.Shelf.Slices.Cells
import Derived.Shelf.Slices.In.SortNone
import Derived.Shelf.Slices.Empties2
import Derived.Ground.SlgnProg
import Derived.Shelf.SlicesE.Clone
import Derived.Lib.AppendZeros
import Derived.Deep.RegionHeld
import Derived.Test.YtmjoijfafachhaaGreatDoorZuAa
import Derived.Test.YtmjoijfafachhaaGreatDoorZuAb
import Derived.Test.YtmjoijfafachhaaGreatDoorZuAc
import Derived.Test.YtmjoijfafachhaaGreatDoorZuAj
import Derived.Test.YtmjoijfafachhaaGreatDoorZuAs
import Derived.Test.YtmjoijfafachhaaGreatDoorZuAd
import Derived.Test.YtmjoijfafachhaaGreatDoorZuAe
import Derived.Test.YtmjoijfafachhaaGreatDoorZuAf
import Derived.Test.YtmjoijfafachhaaGreatDoorZuAg
import Derived.Test.YtmjoijfafachhaaGreatDoorZuAh
import Derived.Test.YtmjoijfafachhaaGreatDoorZuAk
import Derived.Test.YtmjoijfafachhaaGreatDoorZuAl
import Derived.Test.YtmjoijfafachhaaGreatDoorZuAm
import Derived.Test.YtmjoijfafachhaaGreatDoorZuAn
import Derived.Test.YtmjoijfafachhaaGreatDoorZuAi
import Derived.Test.YtmjoijfafachhaaGreatDoorZuAo
import Derived.Test.YtmjoijfafachhaaGreatDoorZuAp
import Derived.Test.YtmjoijfafachhaaGreatDoorZuAq
import Derived.Test.YtmjoijfafachhaaGreatDoorZuAr
namespace Go.Proofs.YtmjoijfafachhaaGreatDoor
open Go Go.RowKit
set_option maxRecDepth 100000
set_option maxHeartbeats 1000000
theorem isNaN_any (x : Int) (w : World) : Calls Tryz.prog 91 #[.int .i64 x] w fun e w' => e = .returned (.bool false) ∧ w' = w := by
  have t1 : (x != x) = false := by simp
  go_enter Tryz.func91, Tryz.ntmps91
  go_wp2_with fail
  go_ret
  exact ⟨rfl, rfl⟩
theorem cmp_any (x y : Int) (w : World) : Calls Tryz.prog 93 #[.int .i64 x, .int .i64 y] w fun e w' => e = .returned (.int .i64 (cmp3 x y)) ∧ w' = w := by
  have HC := Lib.hid isNaN_any
  by_cases h1 : x < y
  · have t1 : decide (x < y) = true := decide_eq_true h1
    have hr : Hid (cmp3 x y = -1) := Lib.hid (by unfold cmp3; rw [if_pos h1])
    clear h1
    go_enter Tryz.func93, Tryz.ntmps93
    go_wp2_with fail
    refine (HC.out _ _).mono ?_
    rintro e w1 ⟨rfl, rfl⟩
    go_wp2_with fail
    refine (HC.out _ _).mono ?_
    rintro e w1 ⟨rfl, rfl⟩
    go_wp2_with fail
    go_ret
    rw [hr.out]; exact ⟨rfl, rfl⟩
  · have t1 : decide (x < y) = false := decide_eq_false h1
    by_cases h2 : y < x
    · have t2 : decide (y < x) = true := decide_eq_true h2
      have hr : Hid (cmp3 x y = 1) := Lib.hid (by unfold cmp3; rw [if_neg h1, if_pos h2])
      clear h1 h2
      go_enter Tryz.func93, Tryz.ntmps93
      go_wp2_with fail
      refine (HC.out _ _).mono ?_
      rintro e w1 ⟨rfl, rfl⟩
      go_wp2_with fail
      refine (HC.out _ _).mono ?_
      rintro e w1 ⟨rfl, rfl⟩
      go_wp2_with fail
      go_ret
      rw [hr.out]; exact ⟨rfl, rfl⟩
    · have t2 : decide (y < x) = false := decide_eq_false h2
      have hr : Hid (cmp3 x y = 0) := Lib.hid (by unfold cmp3; rw [if_neg h1, if_neg h2])
      clear h1 h2
      go_enter Tryz.func93, Tryz.ntmps93
      go_wp2_with fail
      refine (HC.out _ _).mono ?_
      rintro e w1 ⟨rfl, rfl⟩
      go_wp2_with fail
      refine (HC.out _ _).mono ?_
      rintro e w1 ⟨rfl, rfl⟩
      go_wp2_with fail
      go_ret
      rw [hr.out]; exact ⟨rfl, rfl⟩
theorem compare_any (xs ys : List Int) (a b : Option Addr) (c d : Nat) (w : World) (hx : xs.length ≤ 1000000000) (hy : ys.length ≤ 1000000000) (hA : IntsAt w a xs) (hB : IntsAt w b ys) :
    Calls Tryz.prog 77 #[.slice a xs.length c, .slice b ys.length d] w fun e w' => e = .returned (.int .i64 (cmpL xs ys)) ∧ w' = w := by
  have HC := Lib.hid cmp_any
  have HA := Lib.hid hA
  have HB := Lib.hid hB
  clear hA hB
  go_enter Tryz.func77, Tryz.ntmps77
  go_wp2_with fail
  go_loopg [11] xs.length (fun g i wr => ∃ k : Nat, k ≤ xs.length ∧ g = xs.length - k ∧ i = .int .i64 k ∧ wr = w ∧ k ≤ ys.length ∧ Hid (cmpL xs ys = cmpL (xs.drop k) (ys.drop k)))
  case atStart => exact ⟨0, Nat.zero_le _, rfl, rfl, rfl, Nat.zero_le _, Lib.hid rfl⟩
  case round =>
    obtain ⟨k, hk, rfl, rfl, rfl, hky, He⟩ := hrel
    by_cases hlt : k < xs.length
    · obtain ⟨ba, oa, rfl, _, hca⟩ := HA.out.open (by omega)
      have h1 := hca k hlt
      clear hca
      by_cases hly : k < ys.length
      · obtain ⟨bb, ob, rfl, _, hcb⟩ := HB.out.open (by omega)
        have h2 := hcb k hly
        clear hcb
        replace He := Lib.hid (He.out.trans (cmpL_drop hlt hly))
        have t1 : decide ((k : Int) ≥ (ys.length : Int)) = false := decide_eq_false (by omega)
        generalize hc : cmp3 (nth xs k) (nth ys k) = q at *
        have Hc := Lib.hid hc
        clear hc
        by_cases hq : q = 0
        · have t2 : (q != 0) = false := by rw [hq]; simp
          replace He := Lib.hid (by have := He.out; rw [if_pos hq] at this; exact this)
          clear hq
          go_wp2_with fail
          refine (HC.out _ _ _).mono ?_
          rintro e w1 ⟨rfl, rfl⟩
          rw [Hc.out]
          go_wp2_with fail
          go_roundg (xs.length - (k + 1))
          case measure => omega
          case rel => exact ⟨k + 1, by omega, rfl, by go_num, rfl, by omega, He⟩
        · have t2 : (q != 0) = true := by simpa using hq
          replace He := Lib.hid (by have := He.out; rw [if_neg hq] at this; exact this)
          clear hq
          go_wp2_with fail
          refine (HC.out _ _ _).mono ?_
          rintro e w1 ⟨rfl, rfl⟩
          rw [Hc.out]
          go_wp2_with fail
          go_ret
          rw [He.out]; exact ⟨rfl, rfl⟩
      · have t1 : decide ((k : Int) ≥ (ys.length : Int)) = true := decide_eq_true (by omega)
        replace He := Lib.hid (He.out.trans (cmpL_done hlt (by omega)))
        go_wp2_with fail
        go_ret
        rw [He.out]; exact ⟨rfl, rfl⟩
    · obtain rfl : k = xs.length := by omega
      replace He := Lib.hid (He.out.trans (cmpL_end hky))
      by_cases hl : xs.length < ys.length
      · have t1 : decide ((xs.length : Int) < (ys.length : Int)) = true := decide_eq_true (by omega)
        replace He := Lib.hid (by have := He.out; rw [if_pos hl] at this; exact this)
        go_wp2_with fail
        go_ret
        rw [He.out]; exact ⟨rfl, rfl⟩
      · have t1 : decide ((xs.length : Int) < (ys.length : Int)) = false := decide_eq_false (by omega)
        replace He := Lib.hid (by have := He.out; rw [if_neg hl] at this; exact this)
        go_wp2_with fail
        go_ret
        rw [He.out]; exact ⟨rfl, rfl⟩
end Go.Proofs.YtmjoijfafachhaaGreatDoor


namespace Go.Proofs.YtmjoijfafachhaaGreatDoor
open Go Go.RowKit
/-- The order of the pieces (code, order). -/
def pcmp (xc xo yc yo : List Int) : Int := if xo.length = yo.length then cmpL xc yc else (xo.length : Int) - (yo.length : Int)
set_option maxRecDepth 100000 in
set_option maxHeartbeats 1000000 in
theorem pcmp_any (xc xo yc yo : List Int) (R K : Int) (a b a' b' : Option Addr) (c d c' d' : Nat) (w : World) (h1 : xc.length ≤ 1000000) (h2 : xo.length ≤ 1000000) (h3 : yc.length ≤ 1000000) (h4 : yo.length ≤ 1000000) (hX : IntsAt w a xc) (hY : IntsAt w a' yc) :
    Calls Tryz.prog 76 #[.agg #[.slice a xc.length c, .slice b xo.length d, .int .i64 R], .agg #[.slice a' yc.length c', .slice b' yo.length d', .int .i64 K]] w fun e w' => e = .returned (.int .i64 (pcmp xc xo yc yo)) ∧ Below w.heap.size w w' := by
  obtain ⟨W, hW⟩ : ∃ W, W = ((w.alloc (.cells #[.slice a xc.length c, .slice b xo.length d, .int .i64 R] 78)).alloc (.cells #[.slice a' yc.length c', .slice b' yo.length d', .int .i64 K] 78)) := ⟨_, rfl⟩
  have H0 : Hid (HH w W [(w.heap.size, rowO 78 [.slice a xc.length c, .slice b xo.length d, .int .i64 R]), (w.heap.size + 1, rowO 78 [.slice a' yc.length c', .slice b' yo.length d', .int .i64 K])] []) := Lib.hid (by rw [hW]; exact (((HH.start w).alloc #[.slice a xc.length c, .slice b xo.length d, .int .i64 R] 78 rfl rfl).alloc #[.slice a' yc.length c', .slice b' yo.length d', .int .i64 K] 78 (by simp) rfl))
  have HC : Hid (∀ W', Below w.heap.size w W' → Calls Tryz.prog 77 #[.slice a xc.length c, .slice a' yc.length c'] W' fun e w' => e = .returned (.int .i64 (cmpL xc yc)) ∧ w' = W') := Lib.hid fun W' h => compare_any xc yc a a' c c' W' (by omega) (by omega) (hX.later h) (hY.later h)
  have k00 := H0.out.cell (k := 0) (i := 0) rfl rfl
  have k01 := H0.out.cell (k := 0) (i := 1) rfl rfl
  have k10 := H0.out.cell (k := 1) (i := 0) rfl rfl
  have k11 := H0.out.cell (k := 1) (i := 1) rfl rfl
  clear hX hY
  rw [hW] at k00 k01 k10 k11
  by_cases e : xo.length = yo.length
  · have t1 : ((xo.length : Int) != (yo.length : Int)) = false := by rw [e]; simp
    have hr : Hid (pcmp xc xo yc yo = cmpL xc yc) := Lib.hid (by unfold pcmp; rw [if_pos e])
    clear e
    go_enter Tryz.func76, Tryz.ntmps76
    go_wp2_with fail
    rw [← hW]
    clear hW
    refine (HC.out _ H0.out.below).mono ?_
    rintro e w1 ⟨rfl, rfl⟩
    go_wp2_with fail
    go_ret
    rw [hr.out]
    exact ⟨rfl, H0.out.below⟩
  · have t1 : ((xo.length : Int) != (yo.length : Int)) = true := by simp; omega
    have hr : Hid (pcmp xc xo yc yo = (xo.length : Int) - (yo.length : Int)) := Lib.hid (by unfold pcmp; rw [if_neg e])
    clear e
    go_enter Tryz.func76, Tryz.ntmps76
    go_wp2_with fail
    rw [← hW]
    clear hW
    go_ret
    rw [hr.out]
    exact ⟨by go_num, H0.out.below⟩
end Go.Proofs.YtmjoijfafachhaaGreatDoor


namespace Go.Proofs.YtmjoijfafachhaaGreatDoor
open Go Go.RowKit
/-- The order of the pieces. -/
def pc (x y : Dgm) : Int := pcmp x.1 x.2.1 y.1 y.2.1
theorem pc_swap (x y : Dgm) : pc y x = - pc x y := by
  unfold pc pcmp
  by_cases h : x.2.1.length = y.2.1.length
  · rw [if_pos h, if_pos h.symm, cmpL_swap x.1 y.1]
  · rw [if_neg h, if_neg (fun e => h e.symm)]; omega
theorem pc_trans {x y z : Dgm} (h : pc x y ≤ 0) (g : pc y z ≤ 0) : pc x z ≤ 0 := by
  unfold pc pcmp at *
  by_cases h1 : x.2.1.length = y.2.1.length
  · rw [if_pos h1] at h
    by_cases h2 : y.2.1.length = z.2.1.length
    · rw [if_pos h2] at g; rw [if_pos (h1.trans h2)]; exact leL_trans h g
    · rw [if_neg h2] at g; rw [if_neg (fun e => h2 (h1.symm.trans e))]; omega
  · rw [if_neg h1] at h
    by_cases h2 : y.2.1.length = z.2.1.length
    · rw [if_pos h2] at g; rw [if_neg (fun e => h1 (e.trans h2.symm))]; omega
    · rw [if_neg h2] at g; rw [if_neg (by omega)]; omega
theorem set_perm {α : Type} (l : List α) (i j : Nat) (hi : i < l.length) (hj : j < l.length) : ((l.set i l[j]).set j l[i]).Perm l := by
  have h := Array.swap_perm (xs := l.toArray) (i := i) (j := j) (by simpa using hi) (by simpa using hj)
  have := h.toList
  simpa [Array.swap_def] using this
def dg (ds : List Dgm) (j : Nat) : Dgm := ds.getD j ([], [], 0)
theorem dg_get {ds : List Dgm} {j : Nat} (h : j < ds.length) : ds[j]? = some (dg ds j) := by
  unfold dg; rw [List.getD_eq_getElem?_getD, List.getElem?_eq_getElem h]; rfl
/-- Two neighbours exchanged. -/
def pswp (ds : List Dgm) (j : Nat) : List Dgm := (ds.set j (dg ds (j - 1))).set (j - 1) (dg ds j)
theorem pswp_perm {ds : List Dgm} {j : Nat} (hj : j < ds.length) : (pswp ds j).Perm ds := by
  have h := set_perm ds j (j - 1) hj (by omega)
  have a : ds[j - 1] = dg ds (j - 1) := by
    have := dg_get (ds := ds) (j := j - 1) (by omega)
    rw [List.getElem?_eq_getElem (by omega)] at this
    exact Option.some.inj this
  have b : ds[j] = dg ds j := by
    have := dg_get (ds := ds) (j := j) hj
    rw [List.getElem?_eq_getElem hj] at this
    exact Option.some.inj this
  rw [a, b] at h
  exact h
theorem dg_pswp {ds : List Dgm} {j : Nat} (hj : j < ds.length) (k : Nat) : dg (pswp ds j) k = if k = j - 1 then dg ds j else if k = j then dg ds (j - 1) else dg ds k := by
  unfold pswp
  conv => lhs; unfold dg
  rw [List.getD_eq_getElem?_getD, List.getElem?_set]
  by_cases h1 : j - 1 = k
  · rw [if_pos h1, if_pos (by rw [List.length_set]; omega), if_pos h1.symm]; rfl
  · rw [if_neg h1, if_neg (fun e => h1 e.symm), List.getElem?_set]
    by_cases h2 : j = k
    · rw [if_pos h2, if_pos hj, if_pos h2.symm]; rfl
    · rw [if_neg h2, if_neg (fun e => h2 e.symm)]; unfold dg; rw [List.getD_eq_getElem?_getD]
/-- The first i of a list are sorted. -/
structure SrtTo (ds ys : List Dgm) (i : Nat) : Prop where
  perm : ys.Perm ds
  srt : ∀ p q, p < q → q < i → pc (dg ys p) (dg ys q) ≤ 0
/-- The first i + 1 are sorted, but for the one at j that sinks. -/
structure Ins (ds ys : List Dgm) (i j : Nat) : Prop where
  perm : ys.Perm ds
  ji : j ≤ i
  srt : ∀ p q, p < q → q ≤ i → q ≠ j → pc (dg ys p) (dg ys q) ≤ 0
theorem SrtTo.zero (ds : List Dgm) : SrtTo ds ds 1 := ⟨List.Perm.refl _, fun p q h1 h2 => by omega⟩
theorem SrtTo.start {ds ys : List Dgm} {i : Nat} (h : SrtTo ds ys i) : Ins ds ys i i := ⟨h.perm, Nat.le_refl _, fun p q h1 h2 h3 => h.srt p q h1 (by omega)⟩
theorem Ins.step {ds ys : List Dgm} {i j : Nat} (h : Ins ds ys i j) (hj : 0 < j) (hi : i < ys.length) (hc : pc (dg ys j) (dg ys (j - 1)) < 0) : Ins ds (pswp ys j) i (j - 1) := by
  have hjl : j < ys.length := by have := h.ji; omega
  refine ⟨(pswp_perm hjl).trans h.perm, by have := h.ji; omega, fun p q h1 h2 h3 => ?_⟩
  rw [dg_pswp hjl, dg_pswp hjl, if_neg h3]
  by_cases e1 : q = j
  · subst e1
    rw [if_pos rfl]
    by_cases e2 : p = q - 1
    · rw [if_pos e2]; omega
    · rw [if_neg e2, if_neg (by omega)]; exact h.srt p (q - 1) (by omega) (by omega) (by omega)
  · rw [if_neg e1]
    by_cases e2 : p = j - 1
    · rw [if_pos e2]; exact h.srt j q (by omega) h2 e1
    · rw [if_neg e2]
      by_cases e3 : p = j
      · rw [if_pos e3]; exact h.srt (j - 1) q (by omega) h2 e1
      · rw [if_neg e3]; exact h.srt p q h1 h2 e1
theorem Ins.stop {ds ys : List Dgm} {i j : Nat} (h : Ins ds ys i j) (hc : j = 0 ∨ ¬ pc (dg ys j) (dg ys (j - 1)) < 0) : SrtTo ds ys (i + 1) := by
  refine ⟨h.perm, fun p q h1 h2 => ?_⟩
  by_cases e : q = j
  · subst e
    rcases hc with hc | hc
    · omega
    · have h3 : pc (dg ys (q - 1)) (dg ys q) ≤ 0 := by rw [pc_swap]; omega
      by_cases e2 : p = q - 1
      · rw [e2]; exact h3
      · exact pc_trans (h.srt p (q - 1) (by omega) (by omega) (by omega)) h3
  · exact h.srt p q h1 (by omega) e
end Go.Proofs.YtmjoijfafachhaaGreatDoor


namespace Go.Proofs.YtmjoijfafachhaaGreatDoor
open Go Go.RowKit
/-- Shorter, or as long and not greater. -/
def slx (s t : List Int) : Bool := if s.length = t.length then decide (cmpL s t ≤ 0) else decide (s.length ≤ t.length)
theorem slx_trans (a b c : List Int) (h : slx a b = true) (g : slx b c = true) : slx a c = true := by
  unfold slx at *
  by_cases h1 : a.length = b.length
  · rw [if_pos h1, decide_eq_true_eq] at h
    by_cases h2 : b.length = c.length
    · rw [if_pos h2, decide_eq_true_eq] at g
      rw [if_pos (h1.trans h2), decide_eq_true_eq]
      exact leL_trans h g
    · rw [if_neg h2, decide_eq_true_eq] at g
      rw [if_neg (by omega), decide_eq_true_eq]; omega
  · rw [if_neg h1, decide_eq_true_eq] at h
    by_cases h2 : b.length = c.length
    · rw [if_neg (by omega), decide_eq_true_eq]; omega
    · rw [if_neg h2, decide_eq_true_eq] at g
      rw [if_neg (by omega), decide_eq_true_eq]; omega
theorem slx_total (a b : List Int) : (slx a b || slx b a) = true := by
  unfold slx
  by_cases h : a.length = b.length
  · rw [if_pos h, if_pos h.symm, Bool.or_eq_true, decide_eq_true_eq, decide_eq_true_eq]
    exact leL_total a b
  · rw [if_neg h, if_neg (fun e => h e.symm), Bool.or_eq_true, decide_eq_true_eq, decide_eq_true_eq]
    omega
theorem slx_anti {a b : List Int} (h : slx a b = true) (g : slx b a = true) : a = b := by
  unfold slx at *
  by_cases h1 : a.length = b.length
  · rw [if_pos h1, decide_eq_true_eq] at h
    rw [if_pos h1.symm, decide_eq_true_eq] at g
    exact leL_antisymm h g
  · rw [if_neg h1, decide_eq_true_eq] at h
    rw [if_neg (fun e => h1 e.symm), decide_eq_true_eq] at g
    omega
/-- Codes, sorted. -/
def srtC (l : List (List Int)) : List (List Int) := l.mergeSort slx
theorem srtC_uniq {l ys : List (List Int)} (hp : ys.Perm l) (hs : ys.Pairwise fun a b => slx a b = true) : ys = srtC l := by
  have h1 : (srtC l).Perm l := List.mergeSort_perm _ _
  have h2 : (srtC l).Pairwise fun a b => slx a b = true := List.pairwise_mergeSort slx_trans slx_total l
  exact List.Perm.eq_of_pairwise (fun a b _ _ h g => slx_anti h g) hs h2 (hp.trans h1.symm)
/-- The codes of the pieces in order. -/
noncomputable def codesL (S M : List Int) (n : Nat) : List (List Int) := srtC ((pinf S M n).map Prod.fst)
/-- The pieces themselves, sorted. -/
theorem srtTo_codes {S M : List Int} {n : Nat} {ys : List Dgm} (h : SrtTo ((grpOf M n).map (pieOf S M n)) ys ys.length) :
    ys.map (fun p => p.1) = codesL S M n ∧ (∀ p, p ∈ ys → p.1.length = 5 * p.2.1.length) ∧ (ys.map fun p => (p.1, p.2.2)).Perm (pinf S M n) := by
  have hl : ∀ p, p ∈ ys → p.1.length = 5 * p.2.1.length := fun p hp => by
    obtain ⟨G, hG, rfl⟩ := List.mem_map.1 (h.perm.mem_iff.1 hp)
    obtain ⟨c, hc, rfl⟩ := List.mem_map.1 hG
    exact pie_len (pie_is S M n (cls_pos (mem_leadsN.1 hc).1))
  refine ⟨srtC_uniq ?_ ?_, hl, ?_⟩
  · have := h.perm.map (fun p => p.1)
    rw [List.map_map] at this
    unfold pinf
    rw [List.map_map]
    exact this
  · rw [List.pairwise_map, List.pairwise_iff_getElem]
    intro i j hi hj hij
    have e1 : dg ys i = ys[i] := by have := dg_get hi; rw [List.getElem?_eq_getElem hi] at this; exact (Option.some.inj this).symm
    have e2 : dg ys j = ys[j] := by have := dg_get hj; rw [List.getElem?_eq_getElem hj] at this; exact (Option.some.inj this).symm
    have k := h.srt i j hij hj
    rw [e1, e2] at k
    have l1 := hl _ (List.getElem_mem hi)
    have l2 := hl _ (List.getElem_mem hj)
    generalize ys[i] = x at *
    generalize ys[j] = y at *
    unfold pc pcmp at k
    unfold slx
    by_cases g : x.2.1.length = y.2.1.length
    · rw [if_pos g] at k
      rw [if_pos (by omega), decide_eq_true_eq]; exact k
    · rw [if_neg g] at k
      rw [if_neg (by omega), decide_eq_true_eq]; omega
  · have := h.perm.map (fun p => (p.1, p.2.2))
    rw [List.map_map] at this
    exact this
/-- The code of some pieces. -/
def encC (L : Int) (cs : List (List Int)) : List Int := L :: (cs.length : Int) :: cs.flatMap fun c => ((c.length / 5 : Nat) : Int) :: c
/-- The code of a diagram. -/
noncomputable def codeOf (S M : List Int) (L : Int) : List Int := encC L (codesL S M S.length)
/-- The code as it is written: the first i pieces. -/
def codeY (L : Int) (ys : List Dgm) (i : Nat) : List Int := L :: (ys.length : Int) :: (ys.take i).flatMap fun p => (p.2.1.length : Int) :: p.1
theorem codeY_succ (L : Int) {ys : List Dgm} {i : Nat} (h : i < ys.length) : codeY L ys (i + 1) = codeY L ys i ++ [((ys.getD i ([], [], 0)).2.1.length : Int)] ++ (ys.getD i ([], [], 0)).1 := by
  unfold codeY
  rw [List.take_add_one, getD_some (d := ([], [], 0)) h, List.flatMap_append]
  simp
theorem codeY_all {L : Int} {S M : List Int} {ys : List Dgm} (h : SrtTo ((grpOf M S.length).map (pieOf S M S.length)) ys ys.length) : codeY L ys ys.length = codeOf S M L := by
  obtain ⟨h1, h2, _⟩ := srtTo_codes h
  unfold codeY codeOf encC
  rw [List.take_length, ← h1, List.length_map, List.flatMap_map]
  congr 2
  rw [List.flatMap_def, List.flatMap_def]
  congr 1
  refine List.map_congr_left fun p hp => ?_
  have := h2 p hp
  rw [show p.1.length / 5 = p.2.1.length by omega]
theorem piece_few {S M : List Int} {n : Nat} (hm : ∀ x, x < 4 * n → mt M x < 4 * n) {ys : List Dgm} (h : SrtTo ((grpOf M n).map (pieOf S M n)) ys ys.length) {p : Dgm} (hp : p ∈ ys) : p.1.length ≤ 5 * n ∧ p.2.1.length ≤ n ∧ p.1.length = 5 * p.2.1.length := by
  obtain ⟨G, hG, rfl⟩ := List.mem_map.1 (h.perm.mem_iff.1 hp)
  obtain ⟨c, hc, rfl⟩ := List.mem_map.1 hG
  have hi := pie_is S M n (cls_pos (M := M) (n := n) (mem_leadsN.1 hc).1)
  have hl := pie_len hi
  obtain ⟨r, hr, e1, e2⟩ := hi.at_
  have := ordTo_len hm (mem_clsN.1 hr).1 n
  have e3 : (pieOf S M n (clsN M n c)).2.1.length ≤ n := by rw [e2, nats_length]; exact this
  exact ⟨by omega, e3, hl⟩
theorem codeY_few (L : Int) {ys : List Dgm} {k : Nat} (h : ∀ p, p ∈ ys → p.1.length ≤ k) : ∀ i, i ≤ ys.length → (codeY L ys i).length ≤ 2 + i * (k + 1) := fun i => by
  induction i with
  | zero => intro _; simp [codeY]
  | succ i ih =>
    intro hi
    have h1 := ih (by omega)
    have h2 := h (ys.getD i ([], [], 0)) (by rw [List.getD_eq_getElem?_getD, List.getElem?_eq_getElem (by omega)]; exact List.getElem_mem _)
    rw [codeY_succ L (by omega), List.length_append, List.length_append, Nat.add_mul]
    simp only [List.length_cons, List.length_nil]
    omega
theorem codeOf_few2 {S M : List Int} {L : Int} (hv : vldB S M L = true) (h20 : S.length ≤ 20) : (codeOf S M L).length ≤ 2100 := by
  have hs := vldB_shape hv
  have hk : ∀ l, l ∈ codesL S M S.length → l.length ≤ 100 := fun l hl => by
    have hl := (List.mergeSort_perm _ _).mem_iff.1 hl
    obtain ⟨q, hq, rfl⟩ := List.mem_map.1 hl
    obtain ⟨G, hG, rfl⟩ := List.mem_map.1 hq
    obtain ⟨c, hc, rfl⟩ := List.mem_map.1 hG
    obtain ⟨r, hr, e1, _⟩ := (pie_is S M S.length (cls_pos (M := M) (n := S.length) (mem_leadsN.1 hc).1)).at_
    have := ordTo_len (M := M) (fun x hx => hs.mt_lt hx) (mem_clsN.1 hr).1 S.length
    show (pieOf S M S.length _).1.length ≤ 100
    rw [e1, codeL_len]
    show 5 * (ordTo M r S.length).length ≤ 100
    omega
  have hn : (codesL S M S.length).length ≤ 20 := by
    unfold codesL srtC pinf
    rw [List.length_mergeSort, List.length_map, List.length_map]
    exact Nat.le_trans (grp_len M S.length) h20
  unfold codeOf encC
  rw [List.length_cons, List.length_cons]
  generalize codesL S M S.length = cs at *
  have key : ∀ (l : List (List Int)), (∀ x, x ∈ l → x.length ≤ 100) → (l.flatMap fun c => ((c.length / 5 : Nat) : Int) :: c).length ≤ l.length * 101 := fun l => by
    induction l with
    | nil => intro _; simp
    | cons a l ih =>
      intro h
      rw [List.flatMap_cons, List.length_append, List.length_cons, List.length_cons]
      have h1 := h a List.mem_cons_self
      have h2 := ih fun x hx => h x (List.mem_cons_of_mem _ hx)
      omega
  have := key cs hk
  have := Nat.mul_le_mul hn (Nat.le_refl 101)
  omega
theorem part_union {M : List Int} {n : Nat} {G H : List Nat} (hG : Whole M n G) (hH : Whole M n H) (hd : ∀ c, c ∈ G → c ∉ H) : uniM (partM M G) (partM M H) = partM M (G ++ H) := by
  refine ext_nth (by rw [uniM_len, partM_len, partM_len, partM_len, List.length_append]; omega) fun i hi => ?_
  rw [uniM_len, partM_len, partM_len] at hi
  have gg : ∀ {K : List Nat} {j}, j < K.length → K.getD j 0 ∈ K := fun {K j} h => getD_mem h
  rw [partM_nth (G := G ++ H) (by rw [List.length_append]; omega)]
  rcases Nat.lt_or_ge i (4 * G.length) with h | h
  · have e : (G ++ H).getD (i / 4) 0 = G.getD (i / 4) 0 := by rw [List.getD_eq_getElem?_getD, List.getD_eq_getElem?_getD, List.getElem?_append_left (by omega)]
    rw [uniM_left (by rw [partM_len]; exact h), partM_nth h, e]
    unfold partV idxI
    have hin := hG.cl _ (gg (K := G) (j := i / 4) (by omega)) (mt M (4 * G.getD (i / 4) 0 + i % 4) / 4) ⟨i % 4, by omega, rfl⟩
    rw [List.idxOf_append, if_pos hin]
  · obtain ⟨j, rfl⟩ := Nat.exists_eq_add_of_le h
    have e : (G ++ H).getD ((4 * G.length + j) / 4) 0 = H.getD (j / 4) 0 := by
      rw [List.getD_eq_getElem?_getD, List.getD_eq_getElem?_getD, List.getElem?_append_right (by omega)]
      congr 2; omega
    have := uniM_right (A := partM M G) (B := partM M H) (h := j) (by rw [partM_len]; omega)
    rw [partM_len] at this
    rw [this, partM_nth (G := H) (by omega), e, show (4 * G.length + j) % 4 = j % 4 by omega]
    unfold partV idxI
    have hin := hH.cl _ (gg (K := H) (j := j / 4) (by omega)) (mt M (4 * H.getD (j / 4) 0 + j % 4) / 4) ⟨j % 4, by omega, rfl⟩
    rw [List.idxOf_append, if_neg (fun h => hd _ h hin)]
    omega
theorem partS_append (S : List Int) (G H : List Nat) : partS S (G ++ H) = partS S G ++ partS S H := by unfold partS; rw [List.map_append]
/-- The first groups together. -/
theorem grp_flat {M : List Int} {n : Nat} (hm : MateOk M n) (k : Nat) : Whole M n ((grpOf M n).take k).flatten ∧ ∀ c, c ∈ ((grpOf M n).take k).flatten → ∀ j, k ≤ j → j < (grpOf M n).length → c ∉ (grpOf M n).getD j [] := by
  have mem : ∀ {j}, j < (grpOf M n).length → (grpOf M n).getD j [] ∈ grpOf M n := fun {j} hj => by
    rw [List.getD_eq_getElem?_getD, List.getElem?_eq_getElem hj]; exact List.getElem_mem hj
  have apart : ∀ {i j c}, i < (grpOf M n).length → j < (grpOf M n).length → c ∈ (grpOf M n).getD i [] → c ∈ (grpOf M n).getD j [] → i = j := fun {i j c} hi hj h1 h2 => by
    have l1 := (grp_whole hm (mem hi)).1.lt c h1
    have e := (grp_of hm l1 (mem hi) h1).trans (grp_of hm l1 (mem hj) h2).symm
    have nd := grp_nodup hm
    rw [List.getD_eq_getElem?_getD, List.getD_eq_getElem?_getD, List.getElem?_eq_getElem hi, List.getElem?_eq_getElem hj] at e
    exact (List.getElem_inj nd).1 e
  induction k with
  | zero => exact ⟨⟨fun c h => by simp at h, by simp, fun c h => by simp at h⟩, fun c h => by simp at h⟩
  | succ k ih =>
    rcases Nat.lt_or_ge k (grpOf M n).length with h | h
    · have hw := (grp_whole hm (mem h)).1
      have e : ((grpOf M n).take (k + 1)).flatten = ((grpOf M n).take k).flatten ++ (grpOf M n).getD k [] := by
        rw [List.take_add_one, getD_some (d := []) h, List.flatten_append]; simp
      rw [e]
      refine ⟨⟨fun c hc => ?_, ?_, fun c hc d hcd => ?_⟩, fun c hc j hj hjl => ?_⟩
      · rcases List.mem_append.1 hc with g | g
        · exact ih.1.lt c g
        · exact hw.lt c g
      · rw [List.nodup_append]
        exact ⟨ih.1.nd, hw.nd, fun a ha b hb e => ih.2 a ha k (Nat.le_refl _) h (e ▸ hb)⟩
      · rcases List.mem_append.1 hc with g | g
        · exact List.mem_append_left _ (ih.1.cl c g d hcd)
        · exact List.mem_append_right _ (hw.cl c g d hcd)
      · rcases List.mem_append.1 hc with g | g
        · exact ih.2 c g j (by omega) hjl
        · exact fun g2 => by have := apart h hjl g g2; omega
    · rw [List.take_of_length_le (by omega)]
      rw [List.take_of_length_le h] at ih
      exact ⟨ih.1, fun c _ j hj hjl => by omega⟩
theorem grp_all {M : List Int} {n : Nat} (hm : MateOk M n) : (grpOf M n).flatten.Perm (List.range n) := by
  have h := (grp_flat hm (grpOf M n).length).1
  rw [List.take_of_length_le (Nat.le_refl _)] at h
  refine (List.perm_ext_iff_of_nodup h.nd List.nodup_range).2 fun c => ?_
  rw [List.mem_range]
  exact ⟨h.lt c, fun hc => List.mem_flatten.2 ⟨_, grp_has hm c hc, cls_self hc⟩⟩
/-- A diagram renumbered by any order of its crossings. -/
theorem whole_perm {M : List Int} {n : Nat} (hm : MateOk M n) {o : List Nat} (h : o.Perm (List.range n)) : Whole M n o :=
  ⟨fun _ hc => List.mem_range.1 (h.mem_iff.1 hc), h.nodup_iff.2 List.nodup_range, fun _ hc _ hcd => h.mem_iff.2 (List.mem_range.2 (hm.adj_lt (List.mem_range.1 (h.mem_iff.1 hc)) hcd))⟩
end Go.Proofs.YtmjoijfafachhaaGreatDoor


namespace Go.Proofs.YtmjoijfafachhaaGreatDoor
open Go Go.RowKit
/-- A diagram within another one. -/
structure Inn (S' M' S M : List Int) (e : Nat → Nat) : Prop where
  E : Emb M' S'.length M S.length e
  sg : ∀ c, c < S'.length → nth S (e c) = nth S' c
section
variable {S' M' S M : List Int} {L' L : Int} {e : Nat → Nat} (hv' : vldB S' M' L' = true) (hv : vldB S M L = true) (I : Inn S' M' S M e)
theorem inn_out {S' M' S M : List Int} {e : Nat → Nat} (I : Inn S' M' S M e) {h : Nat} (hh : h < 4 * S'.length) : outB S (upE e h) = outB S' h := by
  have hc := I.sg (h / 4) (by omega)
  have h1 := upE_div e h
  have h2 := upE_mod e h
  unfold outB
  rw [h1, h2, hc]
theorem up_og {S' M' S M : List Int} {e : Nat → Nat} (I : Inn S' M' S M e) {h : Nat} (ho : Og S' h) : Og S (upE e h) := ⟨I.E.up_lt ho.1, by rw [inn_out I ho.1]; exact ho.2⟩
include hv' I
theorem up_sim {u v : Nat} (hu : u < 4 * S'.length) (hw : v < 4 * S'.length) : Sim M (upE e u) (upE e v) ↔ Sim M' u v := by
  have hm' := (vldB_iff.1 hv').1.mates2
  unfold Sim
  rw [I.E.mate u hu, I.E.mate v hw, I.E.orb_iff hm' hu hw, I.E.orb_iff hm' (hm'.lt hu) (hm'.lt hw)]
theorem up_cut {u v : Nat} (h : Cut S' M' u v) : Cut S M (upE e u) (upE e v) :=
  ⟨up_og I h.ox, up_og I h.oy, fun k => h.ne (I.E.up_inj h.ox.1 h.oy.1 k), (up_sim hv' I h.ox.1 h.oy.1).2 h.sim⟩
theorem down_cut {u v : Nat} (hu : u < 4 * S'.length) (hw : v < 4 * S'.length) (h : Cut S M (upE e u) (upE e v)) : Cut S' M' u v :=
  ⟨⟨hu, by rw [← inn_out I hu]; exact h.ox.2⟩, ⟨hw, by rw [← inn_out I hw]; exact h.oy.2⟩, fun k => h.ne (by rw [k]), (up_sim hv' I hu hw).1 h.sim⟩
include hv
/-- The cut crossed in both. -/
theorem up_cross {u v : Nat} (h : Cut S' M' u v) : Inn S' (crossL M' u v) S (crossL M (upE e u) (upE e v)) e := by
  have k := up_cut hv' I h
  have hm' := (vldB_iff.1 hv').1.mates2
  refine ⟨⟨I.E.lt, I.E.inj, fun z hz => ?_⟩, I.sg⟩
  have inj : ∀ a, a < 4 * S'.length → (upE e z = upE e a ↔ z = a) := fun a ha => ⟨fun g => I.E.up_inj hz ha g, fun g => by rw [g]⟩
  have a1 := inj u h.ox.1
  have a2 := inj v h.oy.1
  have a3 := inj (mt M' u) (hm'.lt h.ox.1)
  have a4 := inj (mt M' v) (hm'.lt h.oy.1)
  have b1 := I.E.mate u h.ox.1
  have b2 := I.E.mate v h.oy.1
  by_cases g1 : z = u
  · subst g1; rw [cr_x hv k.ox k.oy k.ne, cr_x hv' h.ox h.oy h.ne, b2]
  by_cases g2 : z = v
  · subst g2; rw [cr_y hv k.ox k.oy k.ne, cr_y hv' h.ox h.oy h.ne, b1]
  by_cases g3 : z = mt M' u
  · rw [g3, ← b1, cr_mx hv k.ox k.oy k.ne, cr_mx hv' h.ox h.oy h.ne]
  by_cases g4 : z = mt M' v
  · rw [g4, ← b2, cr_my hv k.ox k.oy k.ne, cr_my hv' h.ox h.oy h.ne]
  rw [cr_else hv k.ox k.oy k.ne (fun g => g1 (a1.1 g)) (fun g => g2 (a2.1 g)) (by rw [b1]; exact fun g => g3 (a3.1 g)) (by rw [b2]; exact fun g => g4 (a4.1 g)), cr_else hv' h.ox h.oy h.ne g1 g2 g3 g4, I.E.mate z hz]
/-- What lies apart stays. -/
theorem far_cross {S2 M2 : List Int} {e2 : Nat → Nat} (J : Inn S2 M2 S M e2) (hd : ∀ c d, c < S'.length → d < S2.length → e c ≠ e2 d) {u v : Nat} (h : Cut S' M' u v) : Inn S2 M2 S (crossL M (upE e u) (upE e v)) e2 := by
  have k := up_cut hv' I h
  have hm' := (vldB_iff.1 hv').1.mates2
  refine ⟨⟨J.E.lt, J.E.inj, fun z hz => ?_⟩, J.sg⟩
  have ne : ∀ a, a < 4 * S'.length → upE e2 z ≠ upE e a := fun a ha g => by
    have h1 := upE_div e2 z
    have h2 := upE_div e a
    exact hd (a / 4) (z / 4) (by omega) (by omega) (by rw [← h1, ← h2, g])
  rw [cr_else hv k.ox k.oy k.ne (ne u h.ox.1) (ne v h.oy.1) (by rw [I.E.mate u h.ox.1]; exact ne _ (hm'.lt h.ox.1)) (by rw [I.E.mate v h.oy.1]; exact ne _ (hm'.lt h.oy.1))]
  exact J.E.mate z hz
end
/-- Cuts crossed in a part are crossed in the whole. -/
theorem up_steps {S' M' N' : List Int} (h : Steps S' M' N') : ∀ {S M : List Int} {L' L : Int} {e : Nat → Nat}, vldB S' M' L' = true → vldB S M L = true → Inn S' M' S M e →
    ∃ N, Steps S M N ∧ Inn S' N' S N e ∧ ∀ (S2 M2 : List Int) (e2 : Nat → Nat), Inn S2 M2 S M e2 → (∀ c d, c < S'.length → d < S2.length → e c ≠ e2 d) → Inn S2 M2 S N e2 := by
  induction h with
  | refl M' => exact fun _ _ I => ⟨_, .refl _, I, fun _ _ _ J _ => J⟩
  | step hc _ ih =>
    intro S M L' L e hv' hv I
    have k := up_cut hv' I hc
    obtain ⟨N, s, i, j⟩ := ih (cut_valid hv' hc).1 (cut_valid hv k).1 (up_cross hv' hv I hc)
    exact ⟨N, .step k s, i, fun S2 M2 e2 J hd => j S2 M2 e2 (far_cross hv' hv I J hd hc) hd⟩
/-- No cut in a diagram that two without cuts make up. -/
theorem nocut_cover {S1 M1 S2 M2 S M : List Int} {L1 L2 L : Int} {e1 e2 : Nat → Nat} (hv1 : vldB S1 M1 L1 = true) (hv2 : vldB S2 M2 L2 = true) (hv : vldB S M L = true) (I1 : Inn S1 M1 S M e1) (I2 : Inn S2 M2 S M e2)
    (hcov : ∀ c, c < S.length → (∃ d, d < S1.length ∧ e1 d = c) ∨ ∃ d, d < S2.length ∧ e2 d = c) (n1 : NoCut S1 M1) (n2 : NoCut S2 M2) : NoCut S M := fun x y hc => by
  have lx := hc.ox.1
  have ly := hc.oy.1
  have up : ∀ (e : Nat → Nat) (d z : Nat), e d = z / 4 → upE e (4 * d + z % 4) = z := fun e d z h => by
    unfold upE
    rw [show (4 * d + z % 4) / 4 = d by omega, show (4 * d + z % 4) % 4 = z % 4 by omega, h]; omega
  have key : ∀ {S1 M1 : List Int} {L1 : Int} {e1 : Nat → Nat}, vldB S1 M1 L1 = true → Inn S1 M1 S M e1 → NoCut S1 M1 → ∀ d, d < S1.length → e1 d = x / 4 → False := fun {S1 M1 L1 e1} hv1 I1 n1 d hd e => by
    have hco := hc.conn hv
    rw [← e] at hco
    obtain ⟨d', hd', e', _⟩ := I1.E.conn_back (vldB_iff.1 hv1).1.mates2 hd hco
    have a := up e1 d x e
    have b := up e1 d' y e'
    rw [← a, ← b] at hc
    exact n1 _ _ (down_cut hv1 I1 (by omega) (by omega) hc)
  rcases hcov (x / 4) (by omega) with ⟨d, hd, e⟩ | ⟨d, hd, e⟩
  · exact key hv1 I1 n1 d hd e
  · exact key hv2 I2 n2 d hd e
/-- The ends of two parts are the end of the whole. -/
theorem cover_end {S1 M1 S2 M2 S M : List Int} {L1 L2 L : Int} {e1 e2 : Nat → Nat} (hv1 : vldB S1 M1 L1 = true) (hv2 : vldB S2 M2 L2 = true) (hv : vldB S M L = true) (I1 : Inn S1 M1 S M e1) (I2 : Inn S2 M2 S M e2)
    (hcov : ∀ c, c < S.length → (∃ d, d < S1.length ∧ e1 d = c) ∨ ∃ d, d < S2.length ∧ e2 d = c) (hdis : ∀ c d, c < S1.length → d < S2.length → e1 c ≠ e2 d) (l1 : S1.length ≤ S.length) (l2 : S2.length ≤ S.length)
    {N1 N2 : List Int} (s1 : Steps S1 M1 N1) (n1 : NoCut S1 N1) (s2 : Steps S2 M2 N2) (n2 : NoCut S2 N2) :
    ∃ N, Steps S M N ∧ NoCut S N ∧ (pinf S N S.length).Perm (pinf S1 N1 S1.length ++ pinf S2 N2 S2.length) := by
  obtain ⟨K, t1, J1, far1⟩ := up_steps s1 hv1 hv I1
  have hvK := t1.valid hv
  have J2 := far1 S2 M2 e2 I2 hdis
  obtain ⟨N, t2, K2, far2⟩ := up_steps s2 hv2 hvK J2
  have hvN := t2.valid hvK
  have K1 := far2 S1 N1 e1 J1 (fun c d hc hd e => hdis d c hd hc e.symm)
  have w1 := s1.valid hv1
  have w2 := s2.valid hv2
  refine ⟨N, t1.trans t2, nocut_cover w1 w2 hvN K1 K2 hcov n1 n2, ?_⟩
  exact pinf_cover K1.E K2.E (vldB_iff.1 w1).1.mates2 (vldB_iff.1 w2).1.mates2 (vldB_iff.1 hvN).1.mates2.ok hcov hdis K1.sg K2.sg l1 l2
/-- A part of a diagram lies within it. -/
theorem part_inn {S M : List Int} {L : Int} (hv : vldB S M L = true) {G : List Nat} (hG : Whole M S.length G) : Inn (partS S G) (partM M G) S M fun c => G.getD c 0 := by
  have E := part_emb hv hG
  have hl : (partS S G).length = G.length := partS_len S G
  exact ⟨by rw [hl]; exact E, fun c hc => by rw [hl] at hc; exact (partS_nth hc).symm⟩
theorem Cut.cuts {S M : List Int} {L : Int} (hv : vldB S M L = true) {x y : Nat} (h : Cut S M x y) : cutsL S M ≠ [] := fun e => by
  have key : ∀ x y, Cut S M x y → x < y → False := fun x y h hlt => by
    have := (mem_cuts hv (p := (x, y))).2 ⟨hlt, h.oy.1, h.ox.2, h.oy.2, h.sim.1, h.sim.2⟩
    rw [e] at this
    simp at this
  rcases Nat.lt_or_gt_of_ne h.ne with g | g
  · exact key x y h g
  · exact key y x (h.symm hv) g
theorem cut_of {S M : List Int} {L : Int} (hv : vldB S M L = true) {p : Nat × Nat} (h : p ∈ cutsL S M) : Cut S M p.1 p.2 := by
  obtain ⟨h1, h2, h3, h4, h5, h6⟩ := (mem_cuts hv).1 h
  exact ⟨⟨by omega, h3⟩, ⟨h2, h4⟩, by omega, h5, h6⟩
noncomputable def pinfD (d : Dgm) : List (List Int × Int) := pinf d.1 d.2.1 d.1.length
/-- The prime factors of a connected diagram are the pieces of its end. -/
theorem prime_end : ∀ (k : Nat) (S M : List Int) (L : Int), S.length ≤ k → vldB S M L = true → Cn M S.length → ∃ N, Steps S M N ∧ NoCut S N ∧ (pinf S N S.length).Perm ((primeL S M L).flatMap pinfD) := fun k => by
  induction k with
  | zero =>
    intro S M L hk hv _
    have hno : NoCut S M := fun x y hc => by have := hc.ox.1; omega
    have hc : cutsL S M = [] := by
      cases h : cutsL S M with
      | nil => rfl
      | cons p l => exact absurd (cut_of hv (p := p) (by rw [h]; exact List.mem_cons_self)) (hno _ _)
    refine ⟨M, .refl _, hno, ?_⟩
    rw [primeL_none hc]
    simp [pinfD]
  | succ k ih =>
    intro S M L hk hv hcn
    cases h : cutsL S M with
    | nil =>
      refine ⟨M, .refl _, fun x y hc => hc.cuts hv h, ?_⟩
      rw [primeL_none h]
      simp [pinfD]
    | cons p l =>
      have hp : p ∈ cutsL S M := by rw [h]; exact List.mem_cons_self
      have hc := cut_of hv hp
      obtain ⟨x, y⟩ := p
      obtain ⟨f1, f2, f3, f4, f5⟩ := fac_cuts hv hp
      obtain ⟨g1, g2⟩ := fac_cn hv hp
      dsimp only at *
      obtain ⟨Na, a1, a2, a3⟩ := ih _ _ _ (by omega) f2 g1
      obtain ⟨Nb, b1, b2, b3⟩ := ih _ _ _ (by omega) f3 g2
      have hm1 := (vldB_iff.1 f1).1.mates2
      have lx := hc.ox.1
      have ly := hc.oy.1
      have wA := whole_cls hm1.ok (x / 4)
      have wB := whole_cls hm1.ok (y / 4)
      have I1 : Inn (facA S M x y).1 (facA S M x y).2.1 S (crossL M x y) _ := part_inn f1 wA
      have I2 : Inn (facB S M x y).1 (facB S M x y).2.1 S (crossL M x y) _ := part_inn f1 wB
      have la : (facA S M x y).1.length = (clsN (crossL M x y) S.length (x / 4)).length := partS_len _ _
      have lb : (facB S M x y).1.length = (clsN (crossL M x y) S.length (y / 4)).length := partS_len _ _
      have gin : ∀ (G : List Nat) c, c ∈ G → ∃ d, d < G.length ∧ G.getD d 0 = c := fun G c hc => by
        obtain ⟨j, hj, e⟩ := List.mem_iff_getElem.1 hc
        exact ⟨j, hj, by rw [List.getD_eq_getElem?_getD, List.getElem?_eq_getElem hj, e]; rfl⟩
      obtain ⟨N, s, n, q⟩ := cover_end f2 f3 f1 I1 I2 (fun c hcl => by
        have hcx := hcn c (x / 4) hcl (by omega)
        rcases near hv hc hcl hcx with t | t
        · left
          rw [la]
          exact gin _ _ (mem_clsN.2 ⟨hcl, conn_sy f1 hcl t⟩)
        · right
          rw [lb]
          exact gin _ _ (mem_clsN.2 ⟨hcl, conn_sy f1 hcl t⟩)) (fun c d hcl hdl e => by
        rw [la] at hcl
        rw [lb] at hdl
        have m1 := (mem_clsN.1 (getD_mem hcl)).2
        have m2 := mem_clsN.1 (getD_mem hdl)
        rw [e] at m1
        exact (cut_valid hv hc).2 (m1.trans (conn_sy f1 (by omega) m2.2))) (by omega) (by omega) a1 a2 b1 b2
      refine ⟨N, .step hc s, n, q.trans ?_⟩
      rw [primeL_cons hv h, List.flatMap_append]
      exact a3.append b3
end Go.Proofs.YtmjoijfafachhaaGreatDoor

