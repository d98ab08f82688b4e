/- cmp.Compare and slices.Compare. canon.pieces$1: two pieces compared, by their numbers of crossings and by their codes. Plain: pieces sorted by insertion. Plain: the code of a diagram; sorted lists of codes; the union of the parts. Plain: the union of the parts that Split gives is the diagram up to numbers. Plain law: the search that counts the parts of a graph without two edges. law07's pieces: how many parts remain without two edges. Slices of slices of integers that are read: s[i:], s[i:j]. -/
import Derived.WalkKit
import Derived.WalkSpells
import Derived.WalkLawsBesides
import Derived.Deep.AppendSrc
import Derived.Deep.LoopGhost
import Derived.Deep.QuietTactic
import Derived.Deep.RegionWith
import Derived.Deep.DeepMust
import Derived.Deep.DeepFit
import Derived.BigQuiet
import Derived.Lib.Hide
import Derived.Outline
import Derived.Test.YtmjoijfafachhaaProg
import Derived.Deep.Matrix
import Derived.Deep.DeepCutAuto
import Derived.Deep.RegionLaw
import Derived.Deep.RegionHeld3
import Derived.Test.YtmjoijfafachhaaSAa
import Derived.Test.YtmjoijfafachhaaSAb
import Derived.Test.YtmjoijfafachhaaSAc
import Derived.Test.YtmjoijfafachhaaSAd
import Derived.Test.YtmjoijfafachhaaSAj
import Derived.Test.YtmjoijfafachhaaSAe
import Derived.Test.YtmjoijfafachhaaSAf
import Derived.Test.YtmjoijfafachhaaSAg
import Derived.Test.YtmjoijfafachhaaSAh
import Derived.Test.YtmjoijfafachhaaSAi
import Derived.Test.YtmjoijfafachhaaSAk
import Derived.Test.YtmjoijfafachhaaSAl
import Derived.Test.YtmjoijfafachhaaSAm
import Derived.Test.YtmjoijfafachhaaSAn
namespace Go.Proofs.Ytmjoijfafachhaa
open Go Go.RowKit
set_option maxRecDepth 100000
set_option maxHeartbeats 1000000
theorem isNaN_any (x : Int) (w : World) : Calls Try.prog 115 #[.int .i64 x] w fun e w' => e = .returned (.bool false) ∧ w' = w := by
  have t1 : (x != x) = false := by simp
  go_enter Try.func115, Try.ntmps115
  go_wp2_with fail
  go_ret
  exact ⟨rfl, rfl⟩
theorem cmp_any (x y : Int) (w : World) : Calls Try.prog 109 #[.int .i64 x, .int .i64 y] w fun e w' => e = .returned (.int .i64 (cmp3 x y)) ∧ w' = w := by
  have HC := Lib.hid isNaN_any
  by_cases h1 : x < y
  · have t1 : decide (x < y) = true := decide_eq_true h1
    have hr : Hid (cmp3 x y = -1) := Lib.hid (by unfold cmp3; rw [if_pos h1])
    clear h1
    go_enter Try.func109, Try.ntmps109
    go_wp2_with fail
    refine (HC.out _ _).mono ?_
    rintro e w1 ⟨rfl, rfl⟩
    go_wp2_with fail
    refine (HC.out _ _).mono ?_
    rintro e w1 ⟨rfl, rfl⟩
    go_wp2_with fail
    go_ret
    rw [hr.out]; exact ⟨rfl, rfl⟩
  · have t1 : decide (x < y) = false := decide_eq_false h1
    by_cases h2 : y < x
    · have t2 : decide (y < x) = true := decide_eq_true h2
      have hr : Hid (cmp3 x y = 1) := Lib.hid (by unfold cmp3; rw [if_neg h1, if_pos h2])
      clear h1 h2
      go_enter Try.func109, Try.ntmps109
      go_wp2_with fail
      refine (HC.out _ _).mono ?_
      rintro e w1 ⟨rfl, rfl⟩
      go_wp2_with fail
      refine (HC.out _ _).mono ?_
      rintro e w1 ⟨rfl, rfl⟩
      go_wp2_with fail
      go_ret
      rw [hr.out]; exact ⟨rfl, rfl⟩
    · have t2 : decide (y < x) = false := decide_eq_false h2
      have hr : Hid (cmp3 x y = 0) := Lib.hid (by unfold cmp3; rw [if_neg h1, if_neg h2])
      clear h1 h2
      go_enter Try.func109, Try.ntmps109
      go_wp2_with fail
      refine (HC.out _ _).mono ?_
      rintro e w1 ⟨rfl, rfl⟩
      go_wp2_with fail
      refine (HC.out _ _).mono ?_
      rintro e w1 ⟨rfl, rfl⟩
      go_wp2_with fail
      go_ret
      rw [hr.out]; exact ⟨rfl, rfl⟩
theorem compare_any (xs ys : List Int) (a b : Option Addr) (c d : Nat) (w : World) (hx : xs.length ≤ 1000000000) (hy : ys.length ≤ 1000000000) (hA : IntsAt w a xs) (hB : IntsAt w b ys) :
    Calls Try.prog 94 #[.slice a xs.length c, .slice b ys.length d] w fun e w' => e = .returned (.int .i64 (cmpL xs ys)) ∧ w' = w := by
  have HC := Lib.hid cmp_any
  have HA := Lib.hid hA
  have HB := Lib.hid hB
  clear hA hB
  go_enter Try.func94, Try.ntmps94
  go_wp2_with fail
  go_loopg [11] xs.length (fun g i wr => ∃ k : Nat, k ≤ xs.length ∧ g = xs.length - k ∧ i = .int .i64 k ∧ wr = w ∧ k ≤ ys.length ∧ Hid (cmpL xs ys = cmpL (xs.drop k) (ys.drop k)))
  case atStart => exact ⟨0, Nat.zero_le _, rfl, rfl, rfl, Nat.zero_le _, Lib.hid rfl⟩
  case round =>
    obtain ⟨k, hk, rfl, rfl, rfl, hky, He⟩ := hrel
    by_cases hlt : k < xs.length
    · obtain ⟨ba, oa, rfl, _, hca⟩ := HA.out.open (by omega)
      have h1 := hca k hlt
      clear hca
      by_cases hly : k < ys.length
      · obtain ⟨bb, ob, rfl, _, hcb⟩ := HB.out.open (by omega)
        have h2 := hcb k hly
        clear hcb
        replace He := Lib.hid (He.out.trans (cmpL_drop hlt hly))
        have t1 : decide ((k : Int) ≥ (ys.length : Int)) = false := decide_eq_false (by omega)
        generalize hc : cmp3 (nth xs k) (nth ys k) = q at *
        have Hc := Lib.hid hc
        clear hc
        by_cases hq : q = 0
        · have t2 : (q != 0) = false := by rw [hq]; simp
          replace He := Lib.hid (by have := He.out; rw [if_pos hq] at this; exact this)
          clear hq
          go_wp2_with fail
          refine (HC.out _ _ _).mono ?_
          rintro e w1 ⟨rfl, rfl⟩
          rw [Hc.out]
          go_wp2_with fail
          go_roundg (xs.length - (k + 1))
          case measure => omega
          case rel => exact ⟨k + 1, by omega, rfl, by go_num, rfl, by omega, He⟩
        · have t2 : (q != 0) = true := by simpa using hq
          replace He := Lib.hid (by have := He.out; rw [if_neg hq] at this; exact this)
          clear hq
          go_wp2_with fail
          refine (HC.out _ _ _).mono ?_
          rintro e w1 ⟨rfl, rfl⟩
          rw [Hc.out]
          go_wp2_with fail
          go_ret
          rw [He.out]; exact ⟨rfl, rfl⟩
      · have t1 : decide ((k : Int) ≥ (ys.length : Int)) = true := decide_eq_true (by omega)
        replace He := Lib.hid (He.out.trans (cmpL_done hlt (by omega)))
        go_wp2_with fail
        go_ret
        rw [He.out]; exact ⟨rfl, rfl⟩
    · obtain rfl : k = xs.length := by omega
      replace He := Lib.hid (He.out.trans (cmpL_end hky))
      by_cases hl : xs.length < ys.length
      · have t1 : decide ((xs.length : Int) < (ys.length : Int)) = true := decide_eq_true (by omega)
        replace He := Lib.hid (by have := He.out; rw [if_pos hl] at this; exact this)
        go_wp2_with fail
        go_ret
        rw [He.out]; exact ⟨rfl, rfl⟩
      · have t1 : decide ((xs.length : Int) < (ys.length : Int)) = false := decide_eq_false (by omega)
        replace He := Lib.hid (by have := He.out; rw [if_neg hl] at this; exact this)
        go_wp2_with fail
        go_ret
        rw [He.out]; exact ⟨rfl, rfl⟩
end Go.Proofs.Ytmjoijfafachhaa

namespace Go.Proofs.Ytmjoijfafachhaa
open Go Go.RowKit
/-- The order of the pieces (code, order). -/
def pcmp (xc xo yc yo : List Int) : Int := if xo.length = yo.length then cmpL xc yc else (xo.length : Int) - (yo.length : Int)
set_option maxRecDepth 100000 in
set_option maxHeartbeats 1000000 in
theorem pcmp_any (xc xo yc yo : List Int) (R K : Int) (a b a' b' : Option Addr) (c d c' d' : Nat) (w : World) (h1 : xc.length ≤ 1000000) (h2 : xo.length ≤ 1000000) (h3 : yc.length ≤ 1000000) (h4 : yo.length ≤ 1000000) (hX : IntsAt w a xc) (hY : IntsAt w a' yc) :
    Calls Try.prog 93 #[.agg #[.slice a xc.length c, .slice b xo.length d, .int .i64 R], .agg #[.slice a' yc.length c', .slice b' yo.length d', .int .i64 K]] w fun e w' => e = .returned (.int .i64 (pcmp xc xo yc yo)) ∧ Below w.heap.size w w' := by
  obtain ⟨W, hW⟩ : ∃ W, W = ((w.alloc (.cells #[.slice a xc.length c, .slice b xo.length d, .int .i64 R] 78)).alloc (.cells #[.slice a' yc.length c', .slice b' yo.length d', .int .i64 K] 78)) := ⟨_, rfl⟩
  have H0 : Hid (HH w W [(w.heap.size, rowO 78 [.slice a xc.length c, .slice b xo.length d, .int .i64 R]), (w.heap.size + 1, rowO 78 [.slice a' yc.length c', .slice b' yo.length d', .int .i64 K])] []) := Lib.hid (by rw [hW]; exact (((HH.start w).alloc #[.slice a xc.length c, .slice b xo.length d, .int .i64 R] 78 rfl rfl).alloc #[.slice a' yc.length c', .slice b' yo.length d', .int .i64 K] 78 (by simp) rfl))
  have HC : Hid (∀ W', Below w.heap.size w W' → Calls Try.prog 94 #[.slice a xc.length c, .slice a' yc.length c'] W' fun e w' => e = .returned (.int .i64 (cmpL xc yc)) ∧ w' = W') := Lib.hid fun W' h => compare_any xc yc a a' c c' W' (by omega) (by omega) (hX.later h) (hY.later h)
  have k00 := H0.out.cell (k := 0) (i := 0) rfl rfl
  have k01 := H0.out.cell (k := 0) (i := 1) rfl rfl
  have k10 := H0.out.cell (k := 1) (i := 0) rfl rfl
  have k11 := H0.out.cell (k := 1) (i := 1) rfl rfl
  clear hX hY
  rw [hW] at k00 k01 k10 k11
  by_cases e : xo.length = yo.length
  · have t1 : ((xo.length : Int) != (yo.length : Int)) = false := by rw [e]; simp
    have hr : Hid (pcmp xc xo yc yo = cmpL xc yc) := Lib.hid (by unfold pcmp; rw [if_pos e])
    clear e
    go_enter Try.func93, Try.ntmps93
    go_wp2_with fail
    rw [← hW]
    clear hW
    refine (HC.out _ H0.out.below).mono ?_
    rintro e w1 ⟨rfl, rfl⟩
    go_wp2_with fail
    go_ret
    rw [hr.out]
    exact ⟨rfl, H0.out.below⟩
  · have t1 : ((xo.length : Int) != (yo.length : Int)) = true := by simp; omega
    have hr : Hid (pcmp xc xo yc yo = (xo.length : Int) - (yo.length : Int)) := Lib.hid (by unfold pcmp; rw [if_neg e])
    clear e
    go_enter Try.func93, Try.ntmps93
    go_wp2_with fail
    rw [← hW]
    clear hW
    go_ret
    rw [hr.out]
    exact ⟨by go_num, H0.out.below⟩
end Go.Proofs.Ytmjoijfafachhaa

namespace Go.Proofs.Ytmjoijfafachhaa
open Go Go.RowKit
/-- The order of the pieces. -/
def pc (x y : Dgm) : Int := pcmp x.1 x.2.1 y.1 y.2.1
theorem pc_swap (x y : Dgm) : pc y x = - pc x y := by
  unfold pc pcmp
  by_cases h : x.2.1.length = y.2.1.length
  · rw [if_pos h, if_pos h.symm, cmpL_swap x.1 y.1]
  · rw [if_neg h, if_neg (fun e => h e.symm)]; omega
theorem pc_trans {x y z : Dgm} (h : pc x y ≤ 0) (g : pc y z ≤ 0) : pc x z ≤ 0 := by
  unfold pc pcmp at *
  by_cases h1 : x.2.1.length = y.2.1.length
  · rw [if_pos h1] at h
    by_cases h2 : y.2.1.length = z.2.1.length
    · rw [if_pos h2] at g; rw [if_pos (h1.trans h2)]; exact leL_trans h g
    · rw [if_neg h2] at g; rw [if_neg (fun e => h2 (h1.symm.trans e))]; omega
  · rw [if_neg h1] at h
    by_cases h2 : y.2.1.length = z.2.1.length
    · rw [if_pos h2] at g; rw [if_neg (fun e => h1 (e.trans h2.symm))]; omega
    · rw [if_neg h2] at g; rw [if_neg (by omega)]; omega
theorem set_perm {α : Type} (l : List α) (i j : Nat) (hi : i < l.length) (hj : j < l.length) : ((l.set i l[j]).set j l[i]).Perm l := by
  have h := Array.swap_perm (xs := l.toArray) (i := i) (j := j) (by simpa using hi) (by simpa using hj)
  have := h.toList
  simpa [Array.swap_def] using this
def dg (ds : List Dgm) (j : Nat) : Dgm := ds.getD j ([], [], 0)
theorem dg_get {ds : List Dgm} {j : Nat} (h : j < ds.length) : ds[j]? = some (dg ds j) := by
  unfold dg; rw [List.getD_eq_getElem?_getD, List.getElem?_eq_getElem h]; rfl
/-- Two neighbours exchanged. -/
def pswp (ds : List Dgm) (j : Nat) : List Dgm := (ds.set j (dg ds (j - 1))).set (j - 1) (dg ds j)
theorem pswp_perm {ds : List Dgm} {j : Nat} (hj : j < ds.length) : (pswp ds j).Perm ds := by
  have h := set_perm ds j (j - 1) hj (by omega)
  have a : ds[j - 1] = dg ds (j - 1) := by
    have := dg_get (ds := ds) (j := j - 1) (by omega)
    rw [List.getElem?_eq_getElem (by omega)] at this
    exact Option.some.inj this
  have b : ds[j] = dg ds j := by
    have := dg_get (ds := ds) (j := j) hj
    rw [List.getElem?_eq_getElem hj] at this
    exact Option.some.inj this
  rw [a, b] at h
  exact h
theorem dg_pswp {ds : List Dgm} {j : Nat} (hj : j < ds.length) (k : Nat) : dg (pswp ds j) k = if k = j - 1 then dg ds j else if k = j then dg ds (j - 1) else dg ds k := by
  unfold pswp
  conv => lhs; unfold dg
  rw [List.getD_eq_getElem?_getD, List.getElem?_set]
  by_cases h1 : j - 1 = k
  · rw [if_pos h1, if_pos (by rw [List.length_set]; omega), if_pos h1.symm]; rfl
  · rw [if_neg h1, if_neg (fun e => h1 e.symm), List.getElem?_set]
    by_cases h2 : j = k
    · rw [if_pos h2, if_pos hj, if_pos h2.symm]; rfl
    · rw [if_neg h2, if_neg (fun e => h2 e.symm)]; unfold dg; rw [List.getD_eq_getElem?_getD]
/-- The first i of a list are sorted. -/
structure SrtTo (ds ys : List Dgm) (i : Nat) : Prop where
  perm : ys.Perm ds
  srt : ∀ p q, p < q → q < i → pc (dg ys p) (dg ys q) ≤ 0
/-- The first i + 1 are sorted, but for the one at j that sinks. -/
structure Ins (ds ys : List Dgm) (i j : Nat) : Prop where
  perm : ys.Perm ds
  ji : j ≤ i
  srt : ∀ p q, p < q → q ≤ i → q ≠ j → pc (dg ys p) (dg ys q) ≤ 0
theorem SrtTo.zero (ds : List Dgm) : SrtTo ds ds 1 := ⟨List.Perm.refl _, fun p q h1 h2 => by omega⟩
theorem SrtTo.start {ds ys : List Dgm} {i : Nat} (h : SrtTo ds ys i) : Ins ds ys i i := ⟨h.perm, Nat.le_refl _, fun p q h1 h2 h3 => h.srt p q h1 (by omega)⟩
theorem Ins.step {ds ys : List Dgm} {i j : Nat} (h : Ins ds ys i j) (hj : 0 < j) (hi : i < ys.length) (hc : pc (dg ys j) (dg ys (j - 1)) < 0) : Ins ds (pswp ys j) i (j - 1) := by
  have hjl : j < ys.length := by have := h.ji; omega
  refine ⟨(pswp_perm hjl).trans h.perm, by have := h.ji; omega, fun p q h1 h2 h3 => ?_⟩
  rw [dg_pswp hjl, dg_pswp hjl, if_neg h3]
  by_cases e1 : q = j
  · subst e1
    rw [if_pos rfl]
    by_cases e2 : p = q - 1
    · rw [if_pos e2]; omega
    · rw [if_neg e2, if_neg (by omega)]; exact h.srt p (q - 1) (by omega) (by omega) (by omega)
  · rw [if_neg e1]
    by_cases e2 : p = j - 1
    · rw [if_pos e2]; exact h.srt j q (by omega) h2 e1
    · rw [if_neg e2]
      by_cases e3 : p = j
      · rw [if_pos e3]; exact h.srt (j - 1) q (by omega) h2 e1
      · rw [if_neg e3]; exact h.srt p q h1 h2 e1
theorem Ins.stop {ds ys : List Dgm} {i j : Nat} (h : Ins ds ys i j) (hc : j = 0 ∨ ¬ pc (dg ys j) (dg ys (j - 1)) < 0) : SrtTo ds ys (i + 1) := by
  refine ⟨h.perm, fun p q h1 h2 => ?_⟩
  by_cases e : q = j
  · subst e
    rcases hc with hc | hc
    · omega
    · have h3 : pc (dg ys (q - 1)) (dg ys q) ≤ 0 := by rw [pc_swap]; omega
      by_cases e2 : p = q - 1
      · rw [e2]; exact h3
      · exact pc_trans (h.srt p (q - 1) (by omega) (by omega) (by omega)) h3
  · exact h.srt p q h1 (by omega) e
end Go.Proofs.Ytmjoijfafachhaa

namespace Go.Proofs.Ytmjoijfafachhaa
open Go Go.RowKit
/-- Shorter, or as long and not greater. -/
def slx (s t : List Int) : Bool := if s.length = t.length then decide (cmpL s t ≤ 0) else decide (s.length ≤ t.length)
theorem slx_trans (a b c : List Int) (h : slx a b = true) (g : slx b c = true) : slx a c = true := by
  unfold slx at *
  by_cases h1 : a.length = b.length
  · rw [if_pos h1, decide_eq_true_eq] at h
    by_cases h2 : b.length = c.length
    · rw [if_pos h2, decide_eq_true_eq] at g
      rw [if_pos (h1.trans h2), decide_eq_true_eq]
      exact leL_trans h g
    · rw [if_neg h2, decide_eq_true_eq] at g
      rw [if_neg (by omega), decide_eq_true_eq]; omega
  · rw [if_neg h1, decide_eq_true_eq] at h
    by_cases h2 : b.length = c.length
    · rw [if_neg (by omega), decide_eq_true_eq]; omega
    · rw [if_neg h2, decide_eq_true_eq] at g
      rw [if_neg (by omega), decide_eq_true_eq]; omega
theorem slx_total (a b : List Int) : (slx a b || slx b a) = true := by
  unfold slx
  by_cases h : a.length = b.length
  · rw [if_pos h, if_pos h.symm, Bool.or_eq_true, decide_eq_true_eq, decide_eq_true_eq]
    exact leL_total a b
  · rw [if_neg h, if_neg (fun e => h e.symm), Bool.or_eq_true, decide_eq_true_eq, decide_eq_true_eq]
    omega
theorem slx_anti {a b : List Int} (h : slx a b = true) (g : slx b a = true) : a = b := by
  unfold slx at *
  by_cases h1 : a.length = b.length
  · rw [if_pos h1, decide_eq_true_eq] at h
    rw [if_pos h1.symm, decide_eq_true_eq] at g
    exact leL_antisymm h g
  · rw [if_neg h1, decide_eq_true_eq] at h
    rw [if_neg (fun e => h1 e.symm), decide_eq_true_eq] at g
    omega
/-- Codes, sorted. -/
def srtC (l : List (List Int)) : List (List Int) := l.mergeSort slx
theorem srtC_uniq {l ys : List (List Int)} (hp : ys.Perm l) (hs : ys.Pairwise fun a b => slx a b = true) : ys = srtC l := by
  have h1 : (srtC l).Perm l := List.mergeSort_perm _ _
  have h2 : (srtC l).Pairwise fun a b => slx a b = true := List.pairwise_mergeSort slx_trans slx_total l
  exact List.Perm.eq_of_pairwise (fun a b _ _ h g => slx_anti h g) hs h2 (hp.trans h1.symm)
theorem srtC_perm {l l' : List (List Int)} (hp : l.Perm l') : srtC l = srtC l' :=
  srtC_uniq ((List.mergeSort_perm _ _).trans hp) (List.pairwise_mergeSort slx_trans slx_total l)
/-- The codes of the pieces in order. -/
noncomputable def codesL (S M : List Int) (n : Nat) : List (List Int) := srtC ((pinf S M n).map Prod.fst)
theorem codes_perm {S M S' M' : List Int} {n n' : Nat} (h : (pinf S' M' n').Perm (pinf S M n)) : codesL S' M' n' = codesL S M n := srtC_perm (h.map _)
/-- The pieces themselves, sorted. -/
theorem srtTo_codes {S M : List Int} {n : Nat} {ys : List Dgm} (h : SrtTo ((grpOf M n).map (pieOf S M n)) ys ys.length) :
    ys.map (fun p => p.1) = codesL S M n ∧ (∀ p, p ∈ ys → p.1.length = 5 * p.2.1.length) ∧ (ys.map fun p => (p.1, p.2.2)).Perm (pinf S M n) := by
  have hl : ∀ p, p ∈ ys → p.1.length = 5 * p.2.1.length := fun p hp => by
    obtain ⟨G, hG, rfl⟩ := List.mem_map.1 (h.perm.mem_iff.1 hp)
    obtain ⟨c, hc, rfl⟩ := List.mem_map.1 hG
    exact pie_len (pie_is S M n (cls_pos (mem_leadsN.1 hc).1))
  refine ⟨srtC_uniq ?_ ?_, hl, ?_⟩
  · have := h.perm.map (fun p => p.1)
    rw [List.map_map] at this
    unfold pinf
    rw [List.map_map]
    exact this
  · rw [List.pairwise_map, List.pairwise_iff_getElem]
    intro i j hi hj hij
    have e1 : dg ys i = ys[i] := by have := dg_get hi; rw [List.getElem?_eq_getElem hi] at this; exact (Option.some.inj this).symm
    have e2 : dg ys j = ys[j] := by have := dg_get hj; rw [List.getElem?_eq_getElem hj] at this; exact (Option.some.inj this).symm
    have k := h.srt i j hij hj
    rw [e1, e2] at k
    have l1 := hl _ (List.getElem_mem hi)
    have l2 := hl _ (List.getElem_mem hj)
    generalize ys[i] = x at *
    generalize ys[j] = y at *
    unfold pc pcmp at k
    unfold slx
    by_cases g : x.2.1.length = y.2.1.length
    · rw [if_pos g] at k
      rw [if_pos (by omega), decide_eq_true_eq]; exact k
    · rw [if_neg g] at k
      rw [if_neg (by omega), decide_eq_true_eq]; omega
  · have := h.perm.map (fun p => (p.1, p.2.2))
    rw [List.map_map] at this
    exact this
/-- The code of some pieces. -/
def encC (L : Int) (cs : List (List Int)) : List Int := L :: (cs.length : Int) :: cs.flatMap fun c => ((c.length / 5 : Nat) : Int) :: c
/-- The code of a diagram. -/
noncomputable def codeOf (S M : List Int) (L : Int) : List Int := encC L (codesL S M S.length)
/-- The code as it is written: the first i pieces. -/
def codeY (L : Int) (ys : List Dgm) (i : Nat) : List Int := L :: (ys.length : Int) :: (ys.take i).flatMap fun p => (p.2.1.length : Int) :: p.1
theorem codeY_succ (L : Int) {ys : List Dgm} {i : Nat} (h : i < ys.length) : codeY L ys (i + 1) = codeY L ys i ++ [((ys.getD i ([], [], 0)).2.1.length : Int)] ++ (ys.getD i ([], [], 0)).1 := by
  unfold codeY
  rw [List.take_add_one, getD_some (d := ([], [], 0)) h, List.flatMap_append]
  simp
theorem codeY_all {L : Int} {S M : List Int} {ys : List Dgm} (h : SrtTo ((grpOf M S.length).map (pieOf S M S.length)) ys ys.length) : codeY L ys ys.length = codeOf S M L := by
  obtain ⟨h1, h2, _⟩ := srtTo_codes h
  unfold codeY codeOf encC
  rw [List.take_length, ← h1, List.length_map, List.flatMap_map]
  congr 2
  rw [List.flatMap_def, List.flatMap_def]
  congr 1
  refine List.map_congr_left fun p hp => ?_
  have := h2 p hp
  rw [show p.1.length / 5 = p.2.1.length by omega]
theorem piece_few {S M : List Int} {n : Nat} (hm : ∀ x, x < 4 * n → mt M x < 4 * n) {ys : List Dgm} (h : SrtTo ((grpOf M n).map (pieOf S M n)) ys ys.length) {p : Dgm} (hp : p ∈ ys) : p.1.length ≤ 5 * n ∧ p.2.1.length ≤ n ∧ p.1.length = 5 * p.2.1.length := by
  obtain ⟨G, hG, rfl⟩ := List.mem_map.1 (h.perm.mem_iff.1 hp)
  obtain ⟨c, hc, rfl⟩ := List.mem_map.1 hG
  have hi := pie_is S M n (cls_pos (M := M) (n := n) (mem_leadsN.1 hc).1)
  have hl := pie_len hi
  obtain ⟨r, hr, e1, e2⟩ := hi.at_
  have := ordTo_len hm (mem_clsN.1 hr).1 n
  have e3 : (pieOf S M n (clsN M n c)).2.1.length ≤ n := by rw [e2, nats_length]; exact this
  exact ⟨by omega, e3, hl⟩
theorem codeY_few (L : Int) {ys : List Dgm} {k : Nat} (h : ∀ p, p ∈ ys → p.1.length ≤ k) : ∀ i, i ≤ ys.length → (codeY L ys i).length ≤ 2 + i * (k + 1) := fun i => by
  induction i with
  | zero => intro _; simp [codeY]
  | succ i ih =>
    intro hi
    have h1 := ih (by omega)
    have h2 := h (ys.getD i ([], [], 0)) (by rw [List.getD_eq_getElem?_getD, List.getElem?_eq_getElem (by omega)]; exact List.getElem_mem _)
    rw [codeY_succ L (by omega), List.length_append, List.length_append, Nat.add_mul]
    simp only [List.length_cons, List.length_nil]
    omega
theorem codeOf_few {S M : List Int} {L : Int} (hv : vldB S M L = true) (h20 : S.length ≤ 20) : (codeOf S M L).length ≤ 1000000000 := by
  have hs := vldB_shape hv
  have hk : ∀ l, l ∈ codesL S M S.length → l.length ≤ 100 := fun l hl => by
    have hl := (List.mergeSort_perm _ _).mem_iff.1 hl
    obtain ⟨q, hq, rfl⟩ := List.mem_map.1 hl
    obtain ⟨G, hG, rfl⟩ := List.mem_map.1 hq
    obtain ⟨c, hc, rfl⟩ := List.mem_map.1 hG
    obtain ⟨r, hr, e1, _⟩ := (pie_is S M S.length (cls_pos (M := M) (n := S.length) (mem_leadsN.1 hc).1)).at_
    have := ordTo_len (M := M) (fun x hx => hs.mt_lt hx) (mem_clsN.1 hr).1 S.length
    show (pieOf S M S.length _).1.length ≤ 100
    rw [e1, codeL_len]
    show 5 * (ordTo M r S.length).length ≤ 100
    omega
  have hn : (codesL S M S.length).length ≤ 20 := by
    unfold codesL srtC pinf
    rw [List.length_mergeSort, List.length_map, List.length_map]
    exact Nat.le_trans (grp_len M S.length) h20
  unfold codeOf encC
  rw [List.length_cons, List.length_cons]
  generalize codesL S M S.length = cs at *
  have key : ∀ (l : List (List Int)), (∀ x, x ∈ l → x.length ≤ 100) → (l.flatMap fun c => ((c.length / 5 : Nat) : Int) :: c).length ≤ l.length * 101 := fun l => by
    induction l with
    | nil => intro _; simp
    | cons a l ih =>
      intro h
      rw [List.flatMap_cons, List.length_append, List.length_cons, List.length_cons]
      have h1 := h a List.mem_cons_self
      have h2 := ih fun x hx => h x (List.mem_cons_of_mem _ hx)
      omega
  have := key cs hk
  have := Nat.mul_le_mul hn (Nat.le_refl 101)
  omega
theorem part_union {M : List Int} {n : Nat} {G H : List Nat} (hG : Whole M n G) (hH : Whole M n H) (hd : ∀ c, c ∈ G → c ∉ H) : uniM (partM M G) (partM M H) = partM M (G ++ H) := by
  refine ext_nth (by rw [uniM_len, partM_len, partM_len, partM_len, List.length_append]; omega) fun i hi => ?_
  rw [uniM_len, partM_len, partM_len] at hi
  have gg : ∀ {K : List Nat} {j}, j < K.length → K.getD j 0 ∈ K := fun {K j} h => getD_mem h
  rw [partM_nth (G := G ++ H) (by rw [List.length_append]; omega)]
  rcases Nat.lt_or_ge i (4 * G.length) with h | h
  · have e : (G ++ H).getD (i / 4) 0 = G.getD (i / 4) 0 := by rw [List.getD_eq_getElem?_getD, List.getD_eq_getElem?_getD, List.getElem?_append_left (by omega)]
    rw [uniM_left (by rw [partM_len]; exact h), partM_nth h, e]
    unfold partV idxI
    have hin := hG.cl _ (gg (K := G) (j := i / 4) (by omega)) (mt M (4 * G.getD (i / 4) 0 + i % 4) / 4) ⟨i % 4, by omega, rfl⟩
    rw [List.idxOf_append, if_pos hin]
  · obtain ⟨j, rfl⟩ := Nat.exists_eq_add_of_le h
    have e : (G ++ H).getD ((4 * G.length + j) / 4) 0 = H.getD (j / 4) 0 := by
      rw [List.getD_eq_getElem?_getD, List.getD_eq_getElem?_getD, List.getElem?_append_right (by omega)]
      congr 2; omega
    have := uniM_right (A := partM M G) (B := partM M H) (h := j) (by rw [partM_len]; omega)
    rw [partM_len] at this
    rw [this, partM_nth (G := H) (by omega), e, show (4 * G.length + j) % 4 = j % 4 by omega]
    unfold partV idxI
    have hin := hH.cl _ (gg (K := H) (j := j / 4) (by omega)) (mt M (4 * H.getD (j / 4) 0 + j % 4) / 4) ⟨j % 4, by omega, rfl⟩
    rw [List.idxOf_append, if_neg (fun h => hd _ h hin)]
    omega
theorem partS_append (S : List Int) (G H : List Nat) : partS S (G ++ H) = partS S G ++ partS S H := by unfold partS; rw [List.map_append]
/-- The first groups together. -/
theorem grp_flat {M : List Int} {n : Nat} (hm : MateOk M n) (k : Nat) : Whole M n ((grpOf M n).take k).flatten ∧ ∀ c, c ∈ ((grpOf M n).take k).flatten → ∀ j, k ≤ j → j < (grpOf M n).length → c ∉ (grpOf M n).getD j [] := by
  have mem : ∀ {j}, j < (grpOf M n).length → (grpOf M n).getD j [] ∈ grpOf M n := fun {j} hj => by
    rw [List.getD_eq_getElem?_getD, List.getElem?_eq_getElem hj]; exact List.getElem_mem hj
  have apart : ∀ {i j c}, i < (grpOf M n).length → j < (grpOf M n).length → c ∈ (grpOf M n).getD i [] → c ∈ (grpOf M n).getD j [] → i = j := fun {i j c} hi hj h1 h2 => by
    have l1 := (grp_whole hm (mem hi)).1.lt c h1
    have e := (grp_of hm l1 (mem hi) h1).trans (grp_of hm l1 (mem hj) h2).symm
    have nd := grp_nodup hm
    rw [List.getD_eq_getElem?_getD, List.getD_eq_getElem?_getD, List.getElem?_eq_getElem hi, List.getElem?_eq_getElem hj] at e
    exact (List.getElem_inj nd).1 e
  induction k with
  | zero => exact ⟨⟨fun c h => by simp at h, by simp, fun c h => by simp at h⟩, fun c h => by simp at h⟩
  | succ k ih =>
    rcases Nat.lt_or_ge k (grpOf M n).length with h | h
    · have hw := (grp_whole hm (mem h)).1
      have e : ((grpOf M n).take (k + 1)).flatten = ((grpOf M n).take k).flatten ++ (grpOf M n).getD k [] := by
        rw [List.take_add_one, getD_some (d := []) h, List.flatten_append]; simp
      rw [e]
      refine ⟨⟨fun c hc => ?_, ?_, fun c hc d hcd => ?_⟩, fun c hc j hj hjl => ?_⟩
      · rcases List.mem_append.1 hc with g | g
        · exact ih.1.lt c g
        · exact hw.lt c g
      · rw [List.nodup_append]
        exact ⟨ih.1.nd, hw.nd, fun a ha b hb e => ih.2 a ha k (Nat.le_refl _) h (e ▸ hb)⟩
      · rcases List.mem_append.1 hc with g | g
        · exact List.mem_append_left _ (ih.1.cl c g d hcd)
        · exact List.mem_append_right _ (hw.cl c g d hcd)
      · rcases List.mem_append.1 hc with g | g
        · exact ih.2 c g j (by omega) hjl
        · exact fun g2 => by have := apart h hjl g g2; omega
    · rw [List.take_of_length_le (by omega)]
      rw [List.take_of_length_le h] at ih
      exact ⟨ih.1, fun c _ j hj hjl => by omega⟩
theorem grp_all {M : List Int} {n : Nat} (hm : MateOk M n) : (grpOf M n).flatten.Perm (List.range n) := by
  have h := (grp_flat hm (grpOf M n).length).1
  rw [List.take_of_length_le (Nat.le_refl _)] at h
  refine (List.perm_ext_iff_of_nodup h.nd List.nodup_range).2 fun c => ?_
  rw [List.mem_range]
  exact ⟨h.lt c, fun hc => List.mem_flatten.2 ⟨_, grp_has hm c hc, cls_self hc⟩⟩
/-- A diagram renumbered by any order of its crossings. -/
theorem whole_perm {M : List Int} {n : Nat} (hm : MateOk M n) {o : List Nat} (h : o.Perm (List.range n)) : Whole M n o :=
  ⟨fun c hc => List.mem_range.1 (h.mem_iff.1 hc), h.nodup_iff.2 List.nodup_range, fun c hc d hcd => h.mem_iff.2 (List.mem_range.2 (hm.adj_lt (List.mem_range.1 (h.mem_iff.1 hc)) hcd))⟩
theorem pinf_renum {S M : List Int} {L : Int} (hv : vldB S M L = true) {o : List Nat} (h : o.Perm (List.range S.length)) : (pinf S M S.length).Perm (pinf (partS S o) (partM M o) S.length) := by
  have hs := vldB_shape hv
  have hw := whole_perm hs.mates h
  have hl : o.length = S.length := by have := h.length_eq; rwa [List.length_range] at this
  have E := part_emb hv hw
  have hm' := E.mates hs.mates2 (part_range hv hw)
  rw [hl] at E hm'
  refine pinf_iso E hm' hs.mates (fun c hc => ?_) (fun c hc => ?_)
  · have hin : c ∈ o := h.mem_iff.2 (List.mem_range.2 hc)
    refine ⟨o.idxOf c, by rw [← hl]; exact List.idxOf_lt_length_iff.2 hin, ?_⟩
    show o.getD (o.idxOf c) 0 = c
    rw [List.getD_eq_getElem?_getD, List.getElem?_eq_getElem (List.idxOf_lt_length_iff.2 hin)]
    exact List.getElem_idxOf _
  · rw [partS_nth (by omega)]
theorem code_renum {S M : List Int} {L : Int} (hv : vldB S M L = true) {o : List Nat} (h : o.Perm (List.range S.length)) : codeOf (partS S o) (partM M o) L = codeOf S M L := by
  have hl : (partS S o).length = S.length := by rw [partS_len]; have := h.length_eq; rwa [List.length_range] at this
  unfold codeOf
  rw [hl, codes_perm (pinf_renum hv h)]
end Go.Proofs.Ytmjoijfafachhaa

namespace Go.Proofs.Ytmjoijfafachhaa
open Go Go.RowKit
/-- Two diagrams beside each other. -/
def uni2 (d x : Dgm) : Dgm := (d.1 ++ x.1, uniM d.2.1 x.2.1, d.2.2 + x.2.2)
def uAll (ds : List Dgm) : Dgm := ds.foldl uni2 ([], [], 0)
theorem uAll_snoc (ds : List Dgm) (x : Dgm) : uAll (ds ++ [x]) = uni2 (uAll ds) x := by unfold uAll; rw [List.foldl_append]; rfl
/-- The crossings of the first parts. -/
noncomputable def flG (M : List Int) (n i : Nat) : List Nat := ((grpOf M n).take i).flatten
theorem splitL_len (S M : List Int) (L : Int) : (splitL S M L).length = (grpOf M S.length).length + L.toNat := by unfold splitL; rw [List.length_append, List.length_map, List.length_replicate]
theorem splitL_grp {S M : List Int} {L : Int} {i : Nat} (h : i < (grpOf M S.length).length) : (splitL S M L)[i]? = some (partS S ((grpOf M S.length).getD i []), partM M ((grpOf M S.length).getD i []), 0) := by
  unfold splitL
  rw [List.getElem?_append_left (by rw [List.length_map]; exact h), List.getElem?_map, getD_some (d := []) h]; rfl
theorem splitL_loop {S M : List Int} {L : Int} {i : Nat} (h : (grpOf M S.length).length ≤ i) (h2 : i < (splitL S M L).length) : (splitL S M L)[i]? = some ([], [], 1) := by
  rw [splitL_len] at h2
  unfold splitL
  rw [List.getElem?_append_right (by rw [List.length_map]; exact h), List.getElem?_replicate, if_pos (by rw [List.length_map]; omega)]
theorem uAll_split {S M : List Int} {L : Int} (hv : vldB S M L = true) : ∀ i, i ≤ (splitL S M L).length → uAll ((splitL S M L).take i) = (partS S (flG M S.length i), partM M (flG M S.length i), ((i - (grpOf M S.length).length : Nat) : Int)) := fun i => by
  have hm := (vldB_shape hv).mates
  induction i with
  | zero =>
    intro _
    show uAll [] = _
    unfold flG
    rw [List.take_zero, Nat.zero_sub]; rfl
  | succ i ih =>
    intro hi
    rcases Nat.lt_or_ge i (grpOf M S.length).length with h | h
    · rw [List.take_add_one, splitL_grp h, Option.toList_some, uAll_snoc, ih (by omega)]
      have e : flG M S.length (i + 1) = flG M S.length i ++ (grpOf M S.length).getD i [] := by
        unfold flG
        rw [List.take_add_one, getD_some (d := []) h, List.flatten_append]; simp
      have hf : Whole M S.length (flG M S.length i) ∧ ∀ c, c ∈ flG M S.length i → ∀ j, i ≤ j → j < (grpOf M S.length).length → c ∉ (grpOf M S.length).getD j [] := grp_flat hm i
      have hmem : (grpOf M S.length).getD i [] ∈ grpOf M S.length := by
        rw [List.getD_eq_getElem?_getD, List.getElem?_eq_getElem h]; exact List.getElem_mem h
      rw [e, partS_append, ← part_union hf.1 (grp_whole hm hmem).1 (fun c hc => hf.2 c hc i (Nat.le_refl _) h)]
      unfold uni2
      rw [show i - (grpOf M S.length).length = 0 by omega, show i + 1 - (grpOf M S.length).length = 0 by omega]
      rfl
    · rw [List.take_add_one, splitL_loop h (by omega), Option.toList_some, uAll_snoc, ih (by omega)]
      have e : flG M S.length (i + 1) = flG M S.length i := by
        unfold flG
        rw [List.take_of_length_le h, List.take_of_length_le (by omega)]
      rw [e]
      unfold uni2
      have e2 : ((i + 1 - (grpOf M S.length).length : Nat) : Int) = ((i - (grpOf M S.length).length : Nat) : Int) + 1 := by omega
      rw [e2]
      simp [uniM]
theorem uAll_good {S M : List Int} {L : Int} (hv : vldB S M L = true) (i : Nat) (hi : i ≤ (splitL S M L).length) : vldB (uAll ((splitL S M L).take i)).1 (uAll ((splitL S M L).take i)).2.1 (uAll ((splitL S M L).take i)).2.2 = true ∧ (uAll ((splitL S M L).take i)).1.length ≤ S.length ∧ 0 ≤ (uAll ((splitL S M L).take i)).2.2 ∧ (uAll ((splitL S M L).take i)).2.2 ≤ L := by
  have hs := vldB_shape hv
  have hlo := hs.lo
  have hhi := hs.hi
  have hf : Whole M S.length (flG M S.length i) := (grp_flat hs.mates i).1
  rw [uAll_split hv i hi]
  rw [splitL_len] at hi
  refine ⟨part_valid hv hf (by show (0 : Int) ≤ ((i - (grpOf M S.length).length : Nat) : Int); omega) (by show ((i - (grpOf M S.length).length : Nat) : Int) ≤ (64 : Int); omega), ?_, ?_, ?_⟩
  · show (partS S (flG M S.length i)).length ≤ _
    rw [partS_len]
    have := hf.nd.length_le_of_subset (l₂ := List.range S.length) fun c hc => List.mem_range.2 (hf.lt c hc)
    rwa [List.length_range] at this
  · show (0 : Int) ≤ ((i - (grpOf M S.length).length : Nat) : Int); omega
  · show ((i - (grpOf M S.length).length : Nat) : Int) ≤ _; omega
theorem part_bound {S M : List Int} {L : Int} (hv : vldB S M L = true) {i : Nat} (hi : i < (splitL S M L).length) {x : Dgm} (hx : (splitL S M L)[i]? = some x) : vldB x.1 x.2.1 x.2.2 = true ∧ x.1.length ≤ S.length ∧ 0 ≤ x.2.2 ∧ x.2.2 ≤ 1 := by
  have hs := vldB_shape hv
  rcases Nat.lt_or_ge i (grpOf M S.length).length with h | h
  · rw [splitL_grp h] at hx
    cases hx
    have hmem : (grpOf M S.length).getD i [] ∈ grpOf M S.length := by
      rw [List.getD_eq_getElem?_getD, List.getElem?_eq_getElem h]; exact List.getElem_mem h
    have hw := (grp_whole hs.mates hmem).1
    refine ⟨part_valid hv hw (show (0 : Int) ≤ 0 by decide) (show (0 : Int) ≤ 64 by decide), ?_, show (0 : Int) ≤ 0 by decide, show (0 : Int) ≤ 1 by decide⟩
    show (partS S _).length ≤ _
    rw [partS_len]
    have := hw.nd.length_le_of_subset (l₂ := List.range S.length) fun c hc => List.mem_range.2 (hw.lt c hc)
    rwa [List.length_range] at this
  · rw [splitL_loop h hi] at hx
    cases hx
    exact ⟨by decide +kernel, Nat.zero_le _, by decide, by decide⟩
/-- All of them: the same code. -/
theorem uAll_code {S M : List Int} {L : Int} (hv : vldB S M L = true) : codeOf (uAll (splitL S M L)).1 (uAll (splitL S M L)).2.1 (uAll (splitL S M L)).2.2 = codeOf S M L := by
  have hs := vldB_shape hv
  have hlo := hs.lo
  have h := uAll_split hv (splitL S M L).length (Nat.le_refl _)
  rw [List.take_length] at h
  rw [h]
  have e : flG M S.length (splitL S M L).length = (grpOf M S.length).flatten := by
    unfold flG
    rw [List.take_of_length_le (by rw [splitL_len]; omega)]
  have e2 : (((splitL S M L).length - (grpOf M S.length).length : Nat) : Int) = L := by rw [splitL_len]; omega
  rw [e, e2]
  exact code_renum hv (grp_all hs.mates)
end Go.Proofs.Ytmjoijfafachhaa

namespace Go.Proofs.Ytmjoijfafachhaa
open Go Go.RowKit
/-- The search from c: what is seen, what waits; of b the first k ends have been looked at. -/
structure Sr (M : List Int) (x y n c : Nat) (old : Nat → Prop) (seen : List Bool) (rest : List Nat) (b k : Nat) : Prop where
  len : seen.length = n
  only : ∀ d, d < n → bth seen d = true → old d ∨ ConnW M x y c d
  olds : ∀ d, d < n → old d → bth seen d = true
  root : bth seen c = true
  wait : ∀ d ∈ rest, d < n ∧ bth seen d = true ∧ ConnW M x y c d
  done : ∀ d, d < n → bth seen d = true → ¬ old d → d ∉ rest → d ≠ b → ∀ e, AdjW M x y d e → bth seen e = true
  now : b < n → ConnW M x y c b ∧ ∀ s, s < k → 4 * b + s ≠ x → mt M (4 * b + s) ≠ x → 4 * b + s ≠ y → mt M (4 * b + s) ≠ y → bth seen (mt M (4 * b + s) / 4) = true
namespace Sr
variable {M : List Int} {x y n c b k : Nat} {old : Nat → Prop} {seen : List Bool} {rest : List Nat}
theorem start (hl : seen.length = n) (hc : c < n) (ho : ∀ d, d < n → (bth seen d = true ↔ old d)) : Sr M x y n c old (seen.set c true) [c] n 0 := by
  have hs := fun j => bth_set seen c j true (by omega)
  refine ⟨by rw [List.length_set, hl], fun d hd h => ?_, fun d hd h => ?_, ?_, fun d hd => ?_, fun d hd h hn hr => ?_, fun h => absurd h (Nat.lt_irrefl _)⟩
  · rw [hs] at h
    by_cases e : c = d
    · subst e; exact .inr (ConnW.refl M x y c)
    · rw [if_neg e] at h; exact .inl ((ho d hd).1 h)
  · rw [hs]
    by_cases e : c = d
    · rw [if_pos e]
    · rw [if_neg e]; exact (ho d hd).2 h
  · rw [hs, if_pos rfl]
  · obtain rfl := List.mem_singleton.1 hd
    exact ⟨hc, by rw [hs, if_pos rfl], ConnW.refl M x y d⟩
  · rw [hs] at h
    by_cases e : c = d
    · subst e; exact absurd (List.mem_singleton.2 rfl) hr
    · rw [if_neg e] at h; exact absurd ((ho d hd).1 h) hn
theorem skip (h : Sr M x y n c old seen rest b k) (hk : 4 * b + k = x ∨ mt M (4 * b + k) = x ∨ 4 * b + k = y ∨ mt M (4 * b + k) = y ∨ bth seen (mt M (4 * b + k) / 4) = true) : Sr M x y n c old seen rest b (k + 1) :=
  ⟨h.len, h.only, h.olds, h.root, h.wait, h.done, fun hb => ⟨(h.now hb).1, fun s hs h1 h2 h3 h4 => by
    rcases Nat.lt_or_ge s k with g | g
    · exact (h.now hb).2 s g h1 h2 h3 h4
    · obtain rfl : s = k := by omega
      rcases hk with e | e | e | e | e
      · exact absurd e h1
      · exact absurd e h2
      · exact absurd e h3
      · exact absurd e h4
      · exact e⟩⟩
end Sr
end Go.Proofs.Ytmjoijfafachhaa

namespace Go.Proofs.Ytmjoijfafachhaa
open Go Go.RowKit
theorem ints_nats_snoc (l : List Nat) (m : Nat) : ints (nats l) ++ [.int .i64 (m : Int)] = ints (nats (l ++ [m])) := by rw [← nats_snoc, ← ints_snoc]
theorem natsv_len (l : List Nat) : (ints (nats l)).length = l.length := by rw [ints_length, nats_length]
end Go.Proofs.Ytmjoijfafachhaa

namespace Go.Proofs.Ytmjoijfafachhaa
open Go Go.RowKit
def fromA (A : Option Addr) (i c : Nat) : Option Addr := if c = i then A else A.map (·.add (i * 1))
theorem IntsAt.from {w : World} {A : Option Addr} {zs : List Int} (h : IntsAt w A zs) {i c : Nat} (hc : zs.length ≤ c) : IntsAt w (fromA A i c) (zs.drop i) := by
  unfold fromA
  by_cases e : c = i
  · rw [if_pos e, List.drop_eq_nil_of_le (by omega)]; exact IntsAt.nil _ _
  · rw [if_neg e]
    intro j v hj
    rw [← ints_drop, List.getElem?_drop] at hj
    obtain ⟨b, off, rfl, hv⟩ := h (i + j) v hj
    exact ⟨b, off + i, by rw [Option.map_some, Addr.add_lit, Nat.mul_one], by rw [Nat.add_assoc]; exact hv⟩
theorem IntsAt.take {w : World} {A : Option Addr} {zs : List Int} (h : IntsAt w A zs) (i : Nat) : IntsAt w A (zs.take i) := fun j v hj => by
  have hjl := (List.getElem?_eq_some_iff.1 hj).1
  rw [ints_length, List.length_take] at hjl
  rw [ints_get _ _ (by rw [List.length_take]; exact hjl)] at hj
  refine h j v ?_
  rw [ints_get _ _ (by omega), ← hj]
  have : nth (zs.take i) j = nth zs j := by unfold nth; rw [List.getD_eq_getElem?_getD, List.getD_eq_getElem?_getD, List.getElem?_take_of_lt (by omega)]
  rw [this]
section
variable {P : Program}
theorem run_from' {t E : TypeId} {i : TypeInfo} (h1 : P.underlying t = some (.slice E)) (h2 : P.info? E = some i) (h4 : i.size = 1) (A : Option Addr) (n c k : Nat) (hk : k ≤ n) (x : Int) (hx : x = (k : Int)) (w : World) :
    (Instr.slice t (.slice A n c) (some (.int .i64 x)) none none).run P w = .ok (.slice (fromA A k c) (n - k) (c - k)) w := by
  subst hx
  have he : P.elem t = E := by simp [Program.elem, h1]
  have h1' : P.underlying t = some (.slice (P.elem t)) := by rw [he]; exact h1
  have hs : (sizeOf (P.elem t)).run P w = .ok 1 w := by rw [he]; simp [sizeOf, typeInfo, h2, h4]
  have hr := run_slice_l (P := P) w t A n c h1' .i64 (k : Int) (by omega) (by omega)
  rw [hs] at hr
  rw [hr]
  simp [Result.andThen, sliced, fromA]
theorem run_mid' {t E : TypeId} {i : TypeInfo} (h1 : P.underlying t = some (.slice E)) (h2 : P.info? E = some i) (h4 : i.size = 1) (A : Option Addr) (n c k l : Nat) (hk : k ≤ l) (hl : l ≤ c) (x y : Int) (hx : x = (k : Int)) (hy : y = (l : Int)) (w : World) :
    (Instr.slice t (.slice A n c) (some (.int .i64 x)) (some (.int .i64 y)) none).run P w = .ok (.slice (fromA A k c) (l - k) (c - k)) w := by
  subst hx hy
  have he : P.elem t = E := by simp [Program.elem, h1]
  have h1' : P.underlying t = some (.slice (P.elem t)) := by rw [he]; exact h1
  have hs : (sizeOf (P.elem t)).run P w = .ok 1 w := by rw [he]; simp [sizeOf, typeInfo, h2, h4]
  have hr := run_slice_lh (P := P) w t A n c h1' .i64 .i64 (k : Int) (l : Int) (by omega) (by omega) (by omega)
  rw [hs] at hr
  rw [hr]
  simp [Result.andThen, sliced, fromA]
end
end Go.Proofs.Ytmjoijfafachhaa

