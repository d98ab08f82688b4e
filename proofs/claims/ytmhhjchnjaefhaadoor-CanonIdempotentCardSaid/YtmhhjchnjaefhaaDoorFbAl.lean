/- canon.pieces$1: two pieces compared, by their numbers of crossings and by their codes. Plain: pieces sorted by insertion. slices.insertionSortCmpFunc for pieces. slices.SortStableFunc for at most 20 pieces. A piece in its box. -/
import Derived.WalkKit
import Derived.WalkSpells
import Derived.WalkLawsBesides
import Derived.Deep.AppendSrc
import Derived.Deep.LoopGhost
import Derived.Deep.QuietTactic
import Derived.Deep.RegionWith
import Derived.Deep.DeepMust
import Derived.Deep.DeepFit
import Derived.BigQuiet
import Derived.Lib.Hide
import Derived.Outline
import Derived.Test.YtmhhjchnjaefhaaDoorProg
import Derived.Deep.Matrix
import Derived.Deep.DeepCutAuto
import Derived.Deep.RegionLaw
import Derived.Deep.RegionHeld3
import Derived.Lib.SliceRun
import Derived.Test.YtmhhjchnjaefhaaDoorFbAa
import Derived.Test.YtmhhjchnjaefhaaDoorFbAb
import Derived.Test.YtmhhjchnjaefhaaDoorFbAc
import Derived.Test.YtmhhjchnjaefhaaDoorFbAd
import Derived.Test.YtmhhjchnjaefhaaDoorFbAi
import Derived.Test.YtmhhjchnjaefhaaDoorFbAj
import Derived.Test.YtmhhjchnjaefhaaDoorFbAe
import Derived.Test.YtmhhjchnjaefhaaDoorFbAf
import Derived.Test.YtmhhjchnjaefhaaDoorFbAg
import Derived.Test.YtmhhjchnjaefhaaDoorFbAh
import Derived.Test.YtmhhjchnjaefhaaDoorFbAk
namespace Go.Proofs.YtmhhjchnjaefhaaDoor
open Go Go.RowKit
/-- The order of the pieces (code, order). -/
def pcmp (xc xo yc yo : List Int) : Int := if xo.length = yo.length then cmpL xc yc else (xo.length : Int) - (yo.length : Int)
set_option maxRecDepth 100000 in
set_option maxHeartbeats 1000000 in
theorem pcmp_any (xc xo yc yo : List Int) (R K : Int) (a b a' b' : Option Addr) (c d c' d' : Nat) (w : World) (h1 : xc.length ≤ 1000000) (h2 : xo.length ≤ 1000000) (h3 : yc.length ≤ 1000000) (h4 : yo.length ≤ 1000000) (hX : IntsAt w a xc) (hY : IntsAt w a' yc) :
    Calls Tryd.prog 68 #[.agg #[.slice a xc.length c, .slice b xo.length d, .int .i64 R], .agg #[.slice a' yc.length c', .slice b' yo.length d', .int .i64 K]] w fun e w' => e = .returned (.int .i64 (pcmp xc xo yc yo)) ∧ Below w.heap.size w w' := by
  obtain ⟨W, hW⟩ : ∃ W, W = ((w.alloc (.cells #[.slice a xc.length c, .slice b xo.length d, .int .i64 R] 51)).alloc (.cells #[.slice a' yc.length c', .slice b' yo.length d', .int .i64 K] 51)) := ⟨_, rfl⟩
  have H0 : Hid (HH w W [(w.heap.size, rowO 51 [.slice a xc.length c, .slice b xo.length d, .int .i64 R]), (w.heap.size + 1, rowO 51 [.slice a' yc.length c', .slice b' yo.length d', .int .i64 K])] []) := Lib.hid (by rw [hW]; exact (((HH.start w).alloc #[.slice a xc.length c, .slice b xo.length d, .int .i64 R] 51 rfl rfl).alloc #[.slice a' yc.length c', .slice b' yo.length d', .int .i64 K] 51 (by simp) rfl))
  have HC : Hid (∀ W', Below w.heap.size w W' → Calls Tryd.prog 69 #[.slice a xc.length c, .slice a' yc.length c'] W' fun e w' => e = .returned (.int .i64 (cmpL xc yc)) ∧ w' = W') := Lib.hid fun W' h => compare_any xc yc a a' c c' W' (by omega) (by omega) (hX.later h) (hY.later h)
  have k00 := H0.out.cell (k := 0) (i := 0) rfl rfl
  have k01 := H0.out.cell (k := 0) (i := 1) rfl rfl
  have k10 := H0.out.cell (k := 1) (i := 0) rfl rfl
  have k11 := H0.out.cell (k := 1) (i := 1) rfl rfl
  clear hX hY
  rw [hW] at k00 k01 k10 k11
  by_cases e : xo.length = yo.length
  · have t1 : ((xo.length : Int) != (yo.length : Int)) = false := by rw [e]; simp
    have hr : Hid (pcmp xc xo yc yo = cmpL xc yc) := Lib.hid (by unfold pcmp; rw [if_pos e])
    clear e
    go_enter Tryd.func68, Tryd.ntmps68
    go_wp2_with fail
    rw [← hW]
    clear hW
    refine (HC.out _ H0.out.below).mono ?_
    rintro e w1 ⟨rfl, rfl⟩
    go_wp2_with fail
    go_ret
    rw [hr.out]
    exact ⟨rfl, H0.out.below⟩
  · have t1 : ((xo.length : Int) != (yo.length : Int)) = true := by simp; omega
    have hr : Hid (pcmp xc xo yc yo = (xo.length : Int) - (yo.length : Int)) := Lib.hid (by unfold pcmp; rw [if_neg e])
    clear e
    go_enter Tryd.func68, Tryd.ntmps68
    go_wp2_with fail
    rw [← hW]
    clear hW
    go_ret
    rw [hr.out]
    exact ⟨by go_num, H0.out.below⟩
end Go.Proofs.YtmhhjchnjaefhaaDoor


namespace Go.Proofs.YtmhhjchnjaefhaaDoor
open Go Go.RowKit
/-- The order of the pieces. -/
def pc (x y : Dgm) : Int := pcmp x.1 x.2.1 y.1 y.2.1
theorem pc_swap (x y : Dgm) : pc y x = - pc x y := by
  unfold pc pcmp
  by_cases h : x.2.1.length = y.2.1.length
  · rw [if_pos h, if_pos h.symm, cmpL_swap x.1 y.1]
  · rw [if_neg h, if_neg (fun e => h e.symm)]; omega
theorem pc_trans {x y z : Dgm} (h : pc x y ≤ 0) (g : pc y z ≤ 0) : pc x z ≤ 0 := by
  unfold pc pcmp at *
  by_cases h1 : x.2.1.length = y.2.1.length
  · rw [if_pos h1] at h
    by_cases h2 : y.2.1.length = z.2.1.length
    · rw [if_pos h2] at g; rw [if_pos (h1.trans h2)]; exact leL_trans h g
    · rw [if_neg h2] at g; rw [if_neg (fun e => h2 (h1.symm.trans e))]; omega
  · rw [if_neg h1] at h
    by_cases h2 : y.2.1.length = z.2.1.length
    · rw [if_pos h2] at g; rw [if_neg (fun e => h1 (e.trans h2.symm))]; omega
    · rw [if_neg h2] at g; rw [if_neg (by omega)]; omega
theorem set_perm {α : Type} (l : List α) (i j : Nat) (hi : i < l.length) (hj : j < l.length) : ((l.set i l[j]).set j l[i]).Perm l := by
  have h := Array.swap_perm (xs := l.toArray) (i := i) (j := j) (by simpa using hi) (by simpa using hj)
  have := h.toList
  simpa [Array.swap_def] using this
def dg (ds : List Dgm) (j : Nat) : Dgm := ds.getD j ([], [], 0)
theorem dg_get {ds : List Dgm} {j : Nat} (h : j < ds.length) : ds[j]? = some (dg ds j) := by
  unfold dg; rw [List.getD_eq_getElem?_getD, List.getElem?_eq_getElem h]; rfl
/-- Two neighbours exchanged. -/
def pswp (ds : List Dgm) (j : Nat) : List Dgm := (ds.set j (dg ds (j - 1))).set (j - 1) (dg ds j)
theorem pswp_perm {ds : List Dgm} {j : Nat} (hj : j < ds.length) : (pswp ds j).Perm ds := by
  have h := set_perm ds j (j - 1) hj (by omega)
  have a : ds[j - 1] = dg ds (j - 1) := by
    have := dg_get (ds := ds) (j := j - 1) (by omega)
    rw [List.getElem?_eq_getElem (by omega)] at this
    exact Option.some.inj this
  have b : ds[j] = dg ds j := by
    have := dg_get (ds := ds) (j := j) hj
    rw [List.getElem?_eq_getElem hj] at this
    exact Option.some.inj this
  rw [a, b] at h
  exact h
theorem dg_pswp {ds : List Dgm} {j : Nat} (hj : j < ds.length) (k : Nat) : dg (pswp ds j) k = if k = j - 1 then dg ds j else if k = j then dg ds (j - 1) else dg ds k := by
  unfold pswp
  conv => lhs; unfold dg
  rw [List.getD_eq_getElem?_getD, List.getElem?_set]
  by_cases h1 : j - 1 = k
  · rw [if_pos h1, if_pos (by rw [List.length_set]; omega), if_pos h1.symm]; rfl
  · rw [if_neg h1, if_neg (fun e => h1 e.symm), List.getElem?_set]
    by_cases h2 : j = k
    · rw [if_pos h2, if_pos hj, if_pos h2.symm]; rfl
    · rw [if_neg h2, if_neg (fun e => h2 e.symm)]; unfold dg; rw [List.getD_eq_getElem?_getD]
/-- The first i of a list are sorted. -/
structure SrtTo (ds ys : List Dgm) (i : Nat) : Prop where
  perm : ys.Perm ds
  srt : ∀ p q, p < q → q < i → pc (dg ys p) (dg ys q) ≤ 0
/-- The first i + 1 are sorted, but for the one at j that sinks. -/
structure Ins (ds ys : List Dgm) (i j : Nat) : Prop where
  perm : ys.Perm ds
  ji : j ≤ i
  srt : ∀ p q, p < q → q ≤ i → q ≠ j → pc (dg ys p) (dg ys q) ≤ 0
theorem SrtTo.zero (ds : List Dgm) : SrtTo ds ds 1 := ⟨List.Perm.refl _, fun p q h1 h2 => by omega⟩
theorem SrtTo.start {ds ys : List Dgm} {i : Nat} (h : SrtTo ds ys i) : Ins ds ys i i := ⟨h.perm, Nat.le_refl _, fun p q h1 h2 h3 => h.srt p q h1 (by omega)⟩
theorem Ins.step {ds ys : List Dgm} {i j : Nat} (h : Ins ds ys i j) (hj : 0 < j) (hi : i < ys.length) (hc : pc (dg ys j) (dg ys (j - 1)) < 0) : Ins ds (pswp ys j) i (j - 1) := by
  have hjl : j < ys.length := by have := h.ji; omega
  refine ⟨(pswp_perm hjl).trans h.perm, by have := h.ji; omega, fun p q h1 h2 h3 => ?_⟩
  rw [dg_pswp hjl, dg_pswp hjl, if_neg h3]
  by_cases e1 : q = j
  · subst e1
    rw [if_pos rfl]
    by_cases e2 : p = q - 1
    · rw [if_pos e2]; omega
    · rw [if_neg e2, if_neg (by omega)]; exact h.srt p (q - 1) (by omega) (by omega) (by omega)
  · rw [if_neg e1]
    by_cases e2 : p = j - 1
    · rw [if_pos e2]; exact h.srt j q (by omega) h2 e1
    · rw [if_neg e2]
      by_cases e3 : p = j
      · rw [if_pos e3]; exact h.srt (j - 1) q (by omega) h2 e1
      · rw [if_neg e3]; exact h.srt p q h1 h2 e1
theorem Ins.stop {ds ys : List Dgm} {i j : Nat} (h : Ins ds ys i j) (hc : j = 0 ∨ ¬ pc (dg ys j) (dg ys (j - 1)) < 0) : SrtTo ds ys (i + 1) := by
  refine ⟨h.perm, fun p q h1 h2 => ?_⟩
  by_cases e : q = j
  · subst e
    rcases hc with hc | hc
    · omega
    · have h3 : pc (dg ys (q - 1)) (dg ys q) ≤ 0 := by rw [pc_swap]; omega
      by_cases e2 : p = q - 1
      · rw [e2]; exact h3
      · exact pc_trans (h.srt p (q - 1) (by omega) (by omega) (by omega)) h3
  · exact h.srt p q h1 (by omega) e
end Go.Proofs.YtmhhjchnjaefhaaDoor


namespace Go.Proofs.YtmhhjchnjaefhaaDoor
open Go Go.RowKit
/-- The slice of pieces under way: three cells each. -/
structure PSt (B0 : Nat) (w0 : World) (b off C : Nat) (wr : World) (ys : List Dgm) : Prop where
  le : B0 ≤ b
  turned : Turned w0 wr (some ⟨b, off, none⟩)
  cells : ∃ vs, Own wr b 51 (some ⟨b, off, none⟩) (C * 3) vs ∧ CellsOf wr B0 vs ys
theorem Turned.go {w0 w w' : World} {a : Option Addr} (h : Turned w0 w a) (hb : Below w.heap.size w w') : Turned w0 w' a :=
  ⟨hb.os.trans h.os, hb.tape.trans h.tape, hb.output.trans h.output, Nat.le_trans h.size hb.size, fun k hk hx => (hb.block k (by have := h.size; omega)).trans (h.block k hk hx)⟩
theorem PSt.later {B0 b off C : Nat} {w0 wr w' : World} {ys : List Dgm} (h : PSt B0 w0 b off C wr ys) (hb : Below wr.heap.size wr w') : PSt B0 w0 b off C w' ys := by
  obtain ⟨vs, h1, h2⟩ := h.cells
  exact ⟨h.le, h.turned.go hb, vs, h1.later hb (Nat.le_refl _), h2.later hb⟩
theorem PSt.read {B0 b off C : Nat} {w0 wr : World} {ys : List Dgm} (h : PSt B0 w0 b off C wr ys) {j : Nat} (hj : j < ys.length) :
    ∃ a c a' c', wr.cell? ⟨b, off + j * 3, none⟩ = some (.slice a (dg ys j).1.length c) ∧ wr.cell? ⟨b, off + j * 3 + 1, none⟩ = some (.slice a' (dg ys j).2.1.length c') ∧ wr.cell? ⟨b, off + j * 3 + 2, none⟩ = some (.int .i64 (dg ys j).2.2) ∧ TI wr B0 a (dg ys j).1 ∧ TI wr B0 a' (dg ys j).2.1 := by
  obtain ⟨vs, h1, h2⟩ := h.cells
  obtain ⟨a, c, a', c', g1, g2, g3, g4, g5⟩ := h2.2 j _ (dg_get hj)
  have hl := h2.1
  obtain ⟨b', o', e, _, _, hc, _⟩ := h1.open (by omega)
  cases e
  exact ⟨a, c, a', c', hc _ _ g1, by rw [Nat.add_assoc]; exact hc _ _ g2, by rw [Nat.add_assoc]; exact hc _ _ g3, g4, g5⟩
theorem turned_set (w : World) (b off i : Nat) (u : Value) : Turned w (w.setCell ⟨b, off + i, none⟩ u) (some ⟨b, off, none⟩) := ⟨rfl, rfl, rfl, by simp, fun j _ hj => Below.heap_setCell w _ u j fun e => hj _ rfl e.symm⟩
theorem Turned.trans' {w0 w w' : World} {a : Option Addr} (h : Turned w0 w a) (g : Turned w w' a) : Turned w0 w' a :=
  ⟨g.os.trans h.os, g.tape.trans h.tape, g.output.trans h.output, Nat.le_trans h.size g.size, fun k hk hx => (g.block k (by have := h.size; omega) hx).trans (h.block k hk hx)⟩
/-- A piece put in the place of another one. -/
theorem PSt.put {B0 b off C : Nat} {w0 wr : World} {ys : List Dgm} (h : PSt B0 w0 b off C wr ys) {j : Nat} (hj : j < ys.length) {a a' : Option Addr} {c c' : Nat} {y : Dgm} (h1 : TI wr B0 a y.1) (h2 : TI wr B0 a' y.2.1) {p1 p2 : Nat} (e1 : p1 = off + (j * 3 + 1)) (e2 : p2 = off + (j * 3 + 2)) :
    PSt B0 w0 b off C (((wr.setCell ⟨b, off + j * 3, none⟩ (.slice a y.1.length c)).setCell ⟨b, p1, none⟩ (.slice a' y.2.1.length c')).setCell ⟨b, p2, none⟩ (.int .i64 y.2.2)) (ys.set j y) ∧ ∀ (a9 : Option Addr) (xs : List Int), TI wr B0 a9 xs → TI (((wr.setCell ⟨b, off + j * 3, none⟩ (.slice a y.1.length c)).setCell ⟨b, p1, none⟩ (.slice a' y.2.1.length c')).setCell ⟨b, p2, none⟩ (.int .i64 y.2.2)) B0 a9 xs := by
  subst e1 e2
  obtain ⟨vs, ho, hc⟩ := h.cells
  have hl := hc.1
  have t1 := turned_set wr b off (j * 3) (.slice a y.1.length c)
  have o1 := ho.set (j * 3) (by omega) (.slice a y.1.length c)
  have t2 := turned_set (wr.setCell ⟨b, off + j * 3, none⟩ (.slice a y.1.length c)) b off (j * 3 + 1) (.slice a' y.2.1.length c')
  have o2 := o1.set (j * 3 + 1) (by rw [List.length_set]; omega) (.slice a' y.2.1.length c')
  have t3 := turned_set ((wr.setCell ⟨b, off + j * 3, none⟩ (.slice a y.1.length c)).setCell ⟨b, off + (j * 3 + 1), none⟩ (.slice a' y.2.1.length c')) b off (j * 3 + 2) (.int .i64 y.2.2)
  have o3 := o2.set (j * 3 + 2) (by rw [List.length_set, List.length_set]; omega) (.int .i64 y.2.2)
  have tt := (t1.trans' t2).trans' t3
  refine ⟨⟨h.le, h.turned.trans' tt, _, o3, by simp [hl], fun i d hd => ?_⟩, fun a9 xs h9 => h9.turned (by decide) h.le ho tt⟩
  rw [List.getElem?_set] at hd
  by_cases e : j = i
  · subst e
    rw [if_pos rfl, if_pos hj] at hd
    cases hd
    refine ⟨a, c, a', c', ?_, ?_, ?_, h1.turned (by decide) h.le ho tt, h2.turned (by decide) h.le ho tt⟩
    · rw [List.getElem?_set, if_neg (by omega), List.getElem?_set, if_neg (by omega), List.getElem?_set, if_pos rfl, if_pos (by omega)]
    · rw [List.getElem?_set, if_neg (by omega), List.getElem?_set, if_pos rfl, if_pos (by rw [List.length_set]; omega)]
    · rw [List.getElem?_set, if_pos rfl, if_pos (by rw [List.length_set, List.length_set]; omega)]
  · rw [if_neg e] at hd
    obtain ⟨A, D, A', D', g1, g2, g3, g4, g5⟩ := hc.2 i d hd
    refine ⟨A, D, A', D', ?_, ?_, ?_, g4.turned (by decide) h.le ho tt, g5.turned (by decide) h.le ho tt⟩
    · rw [List.getElem?_set, if_neg (by omega), List.getElem?_set, if_neg (by omega), List.getElem?_set, if_neg (by omega)]; exact g1
    · rw [List.getElem?_set, if_neg (by omega), List.getElem?_set, if_neg (by omega), List.getElem?_set, if_neg (by omega)]; exact g2
    · rw [List.getElem?_set, if_neg (by omega), List.getElem?_set, if_neg (by omega), List.getElem?_set, if_neg (by omega)]; exact g3
theorem PSt.froz {B0 b off C : Nat} {w0 wr : World} {ys : List Dgm} (h : PSt B0 w0 b off C wr ys) (hj : 0 < ys.length) (k : Nat) : wr.frozen? ⟨b, k, none⟩ = false := by
  obtain ⟨vs, h1, h2⟩ := h.cells
  have hl := h2.1
  obtain ⟨b', o', e, _, _, _, hf⟩ := h1.open (by omega)
  cases e
  exact hf k
set_option maxRecDepth 100000 in
set_option maxHeartbeats 1000000 in
theorem insort_any (B0 b off C : Nat) (ds : List Dgm) (w : World) (hbd : ∀ d, d ∈ ds → d.1.length ≤ 1000000 ∧ d.2.1.length ≤ 1000000) (h0 : 0 < ds.length) (hn : ds.length ≤ 1000000) (h : PSt B0 w b off C w ds) :
    Calls Tryd.prog 83 #[.slice (some ⟨b, off, none⟩) ds.length C, .int .i64 0, .int .i64 (ds.length : Int), .func (.func 68) #[] #[]] w fun e w' => e = .returned (.tuple #[]) ∧ ∃ ys, SrtTo ds ys ds.length ∧ PSt B0 w b off C w' ys := by
  have HH := Lib.hid h
  have HB := Lib.hid hbd
  clear h hbd
  obtain ⟨n, hn1⟩ : ∃ n, n = ds.length := ⟨_, rfl⟩
  have Hn := Lib.hid hn1
  rw [← hn1] at hn h0 ⊢
  clear hn1
  go_enter Tryd.func83, Tryd.ntmps83
  go_wp2_with fail
  go_loopg [8] (n - 1) (fun g v wr => ∃ (i : Nat) (ys : List Dgm), 0 < i ∧ i ≤ n ∧ g = n - i ∧ v = .int .i64 i ∧ Hid (SrtTo ds ys i) ∧ PSt B0 w b off C wr ys)
  case atStart => exact ⟨1, ds, by omega, by omega, rfl, by go_num, Lib.hid (SrtTo.zero ds), HH.out⟩
  case round =>
    obtain ⟨i, ys, hi0, hin, rfl, rfl, Hs, hh⟩ := hrel
    have Hr := Lib.hid hh
    clear hh HH
    by_cases hi : i < n
    · go_wp2_with fail
      go_loopg [9] (0 + i) (fun g v wr => ∃ (j : Nat) (zs : List Dgm), j ≤ i ∧ g = 0 + j ∧ v = .int .i64 (j : Int) ∧ Hid (Ins ds zs i j) ∧ PSt B0 w b off C wr zs)
      case atStart => exact ⟨i, ys, by omega, rfl, rfl, Lib.hid Hs.out.start, Hr.out⟩
      case round =>
        obtain ⟨j, zs, hji, rfl, rfl, Hi, hh⟩ := hrel
        have Hq := Lib.hid hh
        clear hh Hr
        have Hzl : Hid (zs.length = n) := Lib.hid (by rw [Hi.out.perm.length_eq, Hn.out])
        by_cases hj : 0 < j
        · have HBz : Hid (∀ k, k < n → (dg zs k).1.length ≤ 1000000 ∧ (dg zs k).2.1.length ≤ 1000000) := Lib.hid fun k hk => HB.out _ (Hi.out.perm.mem_iff.1 (List.mem_of_getElem? (dg_get (by rw [Hzl.out]; exact hk))))
          obtain ⟨a1, c1, a2, c2, k0, k1, k2, kx, kx2⟩ := Hq.out.read (j := j) (by rw [Hzl.out]; omega)
          obtain ⟨a3, c3, a4, c4, l0, l1, l2, lx, lx2⟩ := Hq.out.read (j := j - 1) (by rw [Hzl.out]; omega)
          obtain ⟨x, hx⟩ : ∃ x, x = dg zs j := ⟨_, rfl⟩
          obtain ⟨y, hy⟩ : ∃ y, y = dg zs (j - 1) := ⟨_, rfl⟩
          have hb1 := HBz.out j (by omega)
          have hb2 := HBz.out (j - 1) (by omega)
          rw [← hx] at k0 k1 k2 kx kx2 hb1
          rw [← hy] at l0 l1 l2 lx lx2 hb2
          have HC : Hid (∀ W', Below wr.heap.size wr W' → Calls Tryd.prog 68 #[.agg #[.slice a1 x.1.length c1, .slice a2 x.2.1.length c2, .int .i64 x.2.2], .agg #[.slice a3 y.1.length c3, .slice a4 y.2.1.length c4, .int .i64 y.2.2]] W' fun e w' => e = .returned (.int .i64 (pc x y)) ∧ Below W'.heap.size W' w') := Lib.hid fun W' hb => pcmp_any x.1 x.2.1 y.1 y.2.1 x.2.2 y.2.2 a1 a2 a3 a4 c1 c2 c3 c4 W' hb1.1 hb1.2 hb2.1 hb2.2 (kx.1.later hb) (lx.1.later hb)
          obtain ⟨m, hm⟩ : ∃ m, m = j - 1 := ⟨_, rfl⟩
          have HP1 : Hid (∀ W', Below wr.heap.size wr W' → PSt B0 w b off C (((W'.setCell ⟨b, off + j * 3, none⟩ (.slice a3 y.1.length c3)).setCell ⟨b, off + j * 3 + 1, none⟩ (.slice a4 y.2.1.length c4)).setCell ⟨b, off + j * 3 + 2, none⟩ (.int .i64 y.2.2)) (zs.set j y) ∧ PSt B0 w b off C ((((((W'.setCell ⟨b, off + j * 3, none⟩ (.slice a3 y.1.length c3)).setCell ⟨b, off + j * 3 + 1, none⟩ (.slice a4 y.2.1.length c4)).setCell ⟨b, off + j * 3 + 2, none⟩ (.int .i64 y.2.2)).setCell ⟨b, off + m * 3, none⟩ (.slice a1 x.1.length c1)).setCell ⟨b, off + m * 3 + 1, none⟩ (.slice a2 x.2.1.length c2)).setCell ⟨b, off + m * 3 + 2, none⟩ (.int .i64 x.2.2)) (pswp zs j)) := Lib.hid fun W' hb => by
            have g1 := (Hq.out.later hb).put (j := j) (c := c3) (c' := c4) (y := y) (by rw [Hzl.out]; omega) (lx.later hb) (lx2.later hb) (p1 := off + j * 3 + 1) (p2 := off + j * 3 + 2) (by omega) (by omega)
            have g2 := g1.1.put (j := m) (c := c1) (c' := c2) (y := x) (by rw [List.length_set, Hzl.out]; omega) (g1.2 _ _ (kx.later hb)) (g1.2 _ _ (kx2.later hb)) (p1 := off + m * 3 + 1) (p2 := off + m * 3 + 2) (by omega) (by omega)
            refine ⟨g1.1, ?_⟩
            unfold pswp
            rw [← hx, ← hy, ← hm]
            exact g2.1
          have HR : Hid (∀ W', Below wr.heap.size wr W' → (∃ v0 v1 v2, (((W'.setCell ⟨b, off + j * 3, none⟩ (.slice a3 y.1.length c3)).setCell ⟨b, off + j * 3 + 1, none⟩ (.slice a4 y.2.1.length c4)).setCell ⟨b, off + j * 3 + 2, none⟩ (.int .i64 y.2.2)).cell? ⟨b, off + m * 3, none⟩ = some v0 ∧ (((W'.setCell ⟨b, off + j * 3, none⟩ (.slice a3 y.1.length c3)).setCell ⟨b, off + j * 3 + 1, none⟩ (.slice a4 y.2.1.length c4)).setCell ⟨b, off + j * 3 + 2, none⟩ (.int .i64 y.2.2)).cell? ⟨b, off + m * 3 + 1, none⟩ = some v1 ∧ (((W'.setCell ⟨b, off + j * 3, none⟩ (.slice a3 y.1.length c3)).setCell ⟨b, off + j * 3 + 1, none⟩ (.slice a4 y.2.1.length c4)).setCell ⟨b, off + j * 3 + 2, none⟩ (.int .i64 y.2.2)).cell? ⟨b, off + m * 3 + 2, none⟩ = some v2) ∧ ∀ k, (((W'.setCell ⟨b, off + j * 3, none⟩ (.slice a3 y.1.length c3)).setCell ⟨b, off + j * 3 + 1, none⟩ (.slice a4 y.2.1.length c4)).setCell ⟨b, off + j * 3 + 2, none⟩ (.int .i64 y.2.2)).frozen? ⟨b, k, none⟩ = false) := Lib.hid fun W' hb => by
            have g := (HP1.out W' hb).1
            obtain ⟨_, _, _, _, e1, e2, e3, _⟩ := g.read (j := m) (by rw [List.length_set, Hzl.out]; omega)
            exact ⟨⟨_, _, _, e1, e2, e3⟩, g.froz (by rw [List.length_set, Hzl.out]; omega)⟩
          have HP : Hid (pc x y = pc (dg zs j) (dg zs (j - 1))) := Lib.hid (by rw [hx, hy])
          have Hxy := Lib.hid (And.intro hx hy)
          clear hx hy hb1 hb2 kx lx kx2 lx2
          generalize x.1.length = n1 at *
          generalize x.2.1.length = n2 at *
          generalize y.1.length = n3 at *
          generalize y.2.1.length = n4 at *
          generalize x.2.2 = x2 at *
          generalize y.2.2 = y2 at *
          generalize pc x y = q at *
          rw [← hm] at HP l0 l1 l2
          have hm1 : m < n := by omega
          have hjn : j < n := by omega
          have z1 : (0 : Int) ≤ (j : Int) := by omega
          have z2 : (j : Int) < (n : Int) := by omega
          have z3 : (0 : Int) ≤ (m : Int) := by omega
          have z4 : (m : Int) < (n : Int) := by omega
          have z5 : IntKind.i64.wrap ((j : Int) - 1) = (m : Int) := by rw [wrapi_mid (by omega) (by omega)]; omega
          have z6 : wrap64 ((j : Int) - 1) = (m : Int) := by rw [wrap_mid (by omega) (by omega)]; omega
          have Hm := Lib.hid hm
          clear hm
          have HS : Hid (∀ W', Below wr.heap.size wr W' → W'.cell? ⟨b, off + j * 3, none⟩ = some (.slice a1 n1 c1) ∧ W'.cell? ⟨b, off + j * 3 + 1, none⟩ = some (.slice a2 n2 c2) ∧ W'.cell? ⟨b, off + j * 3 + 2, none⟩ = some (.int .i64 x2) ∧ W'.cell? ⟨b, off + m * 3, none⟩ = some (.slice a3 n3 c3) ∧ W'.cell? ⟨b, off + m * 3 + 1, none⟩ = some (.slice a4 n4 c4) ∧ W'.cell? ⟨b, off + m * 3 + 2, none⟩ = some (.int .i64 y2)) := Lib.hid fun W' hb => by
            have hbk : ∀ (p : Nat) (v : Value), wr.cell? ⟨b, p, none⟩ = some v → W'.cell? ⟨b, p, none⟩ = some v := fun p v hv => by
              have hlt : b < wr.heap.size := by
                obtain ⟨vs, ho, _⟩ := Hq.out.cells
                exact (ho.lt rfl).2
              unfold World.cell? at hv ⊢
              rw [hb.block b hlt]; exact hv
            exact ⟨hbk _ _ k0, hbk _ _ k1, hbk _ _ k2, hbk _ _ l0, hbk _ _ l1, hbk _ _ l2⟩
          have Q0 := Lib.hid (HS.out wr.drew (Below.refl _ _).drew)
          have bd := Lib.hid (Below.drew (Below.refl wr.heap.size wr))
          clear k0 k1 k2 l0 l1 l2
          have t1 : decide ((j : Int) > 0) = true := decide_eq_true (by omega)
          by_cases hq : q < 0
          · have d1 : decide (q < 0) = true := decide_eq_true hq
            have Hlt := Lib.hid hq
            clear hq
            go_wp2_with fail
            go_region_held3 (fun W' => W'.cell? ⟨b, off + j * 3, none⟩ = some (.slice a1 n1 c1) ∧ W'.cell? ⟨b, off + j * 3 + 1, none⟩ = some (.slice a2 n2 c2) ∧ W'.cell? ⟨b, off + j * 3 + 2, none⟩ = some (.int .i64 x2) ∧ W'.cell? ⟨b, off + m * 3, none⟩ = some (.slice a3 n3 c3) ∧ W'.cell? ⟨b, off + m * 3 + 1, none⟩ = some (.slice a4 n4 c4) ∧ W'.cell? ⟨b, off + m * 3 + 2, none⟩ = some (.int .i64 y2))
              (first
                | with_reducible exact Q0.out
                | with_reducible exact Q1.out)
              (first
                | ((with_reducible refine (HC.out _ bd.out).mono ?_); rintro e w5 ⟨rfl, hb5⟩; have B1 := Lib.hid (bd.out.trans (hb5.mono bd.out.size)); have Q1 := Lib.hid (HS.out _ B1.out)))
            go_wp2_with fail
            have bd6 := Lib.hid B1.out.drew
            obtain ⟨g0, g1, g2, g3, g4, g5⟩ := HS.out w5.drew bd6.out
            obtain ⟨r0, r1, r2, r3, r4, r5⟩ := Q1.out
            have FR := (Hq.out.later B1.out).froz (by rw [Hzl.out]; omega)
            have f0 := FR (off + j * 3)
            have f1 := FR (off + j * 3 + 1)
            have f2 := FR (off + j * 3 + 2)
            have f3 := FR (off + m * 3)
            have f4 := FR (off + m * 3 + 1)
            have f5 := FR (off + m * 3 + 2)
            clear FR
            obtain ⟨⟨v0, v1, v2, u0, u1, u2⟩, FR2⟩ := HR.out _ B1.out
            have f6 := FR2 (off + m * 3)
            have f7 := FR2 (off + m * 3 + 1)
            have f8 := FR2 (off + m * 3 + 2)
            clear FR2
            go_region
            go_wp2_with fail
            go_roundg (0 + m)
            case measure => have := Hm.out; omega
            case rel =>
              refine ⟨m, pswp zs j, by have := Hm.out; omega, rfl, by go_num, Lib.hid ?_, (HP1.out w5 B1.out).2.later (Below.refl _ _).drew⟩
              rw [Hm.out]
              exact Hi.out.step hj (by rw [Hzl.out]; exact hi) (by rw [← Hm.out, ← HP.out]; exact Hlt.out)
          · have d1 : decide (q < 0) = false := decide_eq_false hq
            have Hge := Lib.hid hq
            clear hq
            go_wp2_with fail
            go_region_held3 (fun W' => W'.cell? ⟨b, off + j * 3, none⟩ = some (.slice a1 n1 c1) ∧ W'.cell? ⟨b, off + j * 3 + 1, none⟩ = some (.slice a2 n2 c2) ∧ W'.cell? ⟨b, off + j * 3 + 2, none⟩ = some (.int .i64 x2) ∧ W'.cell? ⟨b, off + m * 3, none⟩ = some (.slice a3 n3 c3) ∧ W'.cell? ⟨b, off + m * 3 + 1, none⟩ = some (.slice a4 n4 c4) ∧ W'.cell? ⟨b, off + m * 3 + 2, none⟩ = some (.int .i64 y2))
              (first
                | with_reducible exact Q0.out
                | with_reducible exact Q1.out)
              (first
                | ((with_reducible refine (HC.out _ bd.out).mono ?_); rintro e w5 ⟨rfl, hb5⟩; have B1 := Lib.hid (bd.out.trans (hb5.mono bd.out.size)); have Q1 := Lib.hid (HS.out _ B1.out)))
            go_wp2_with fail
            go_roundg (n - (i + 1))
            case measure => omega
            case rel => exact ⟨i + 1, zs, by omega, by omega, rfl, by go_num, Lib.hid (Hi.out.stop (.inr (by rw [← Hm.out, ← HP.out]; have := Hge.out; omega))), Hq.out.later B1.out⟩
        · obtain rfl : j = 0 := by omega
          have t1 : decide ((0 : Int) > 0) = false := rfl
          go_wp2_with fail
          go_quiet (fail)
          go_wp2_with fail
          go_roundg (n - (i + 1))
          case measure => omega
          case rel => exact ⟨i + 1, zs, by omega, by omega, rfl, by go_num, Lib.hid (Hi.out.stop (.inl rfl)), Hq.out.later (below_drewNN (Below.refl _ _) _)⟩
    · obtain rfl : i = n := by omega
      go_wp2_with fail
      refine bodyPost_end (results_none rfl _ _ _) rfl ?_
      exact ⟨rfl, ys, Hs.out, Hr.out⟩
end Go.Proofs.YtmhhjchnjaefhaaDoor


namespace Go.Proofs.YtmhhjchnjaefhaaDoor
open Go Go.RowKit
set_option maxRecDepth 100000
set_option maxHeartbeats 1000000
theorem insort_none (A : Option Addr) (C a n : Nat) (w : World) (h : n ≤ a) (ha : a ≤ 1000) :
    Calls Tryd.prog 83 #[.slice A n C, .int .i64 (a : Int), .int .i64 (n : Int), .func (.func 68) #[] #[]] w fun e w' => e = .returned (.tuple #[]) ∧ w' = w := by
  have t1 : decide ((a : Int) + 1 < (n : Int)) = false := decide_eq_false (by omega)
  have w1 : IntKind.i64.wrap ((a : Int) + 1) = (a : Int) + 1 := wrapi_mid (by omega) (by omega)
  go_enter Tryd.func83, Tryd.ntmps83
  go_wp2_with fail
  go_loopg [8] 1 (fun g v wr => g = 1 ∧ v = .int .i64 ((a : Int) + 1) ∧ wr = w)
  case atStart => exact ⟨rfl, by go_num, rfl⟩
  case round =>
    obtain ⟨rfl, rfl, rfl⟩ := hrel
    go_wp2_with fail
    refine bodyPost_end (results_none rfl _ _ _) rfl ?_
    exact ⟨rfl, rfl⟩
theorem stable_any (B0 b off C : Nat) (ds : List Dgm) (w : World) (hbd : ∀ d, d ∈ ds → d.1.length ≤ 1000000 ∧ d.2.1.length ≤ 1000000) (h0 : 0 < ds.length) (hn : ds.length ≤ 20) (h : PSt B0 w b off C w ds) :
    Calls Tryd.prog 76 #[.slice (some ⟨b, off, none⟩) ds.length C, .int .i64 (ds.length : Int), .func (.func 68) #[] #[]] w fun e w' => e = .returned (.tuple #[]) ∧ ∃ ys, SrtTo ds ys ds.length ∧ PSt B0 w b off C w' ys := by
  have HI := Lib.hid (insort_any B0 b off C ds w hbd h0 (by omega) h)
  have HN := Lib.hid insort_none
  clear hbd h
  generalize ds.length = n at *
  by_cases e : n = 20
  · subst e
    have t1 : decide ((20 : Int) ≤ ((20 : Nat) : Int)) = true := rfl
    have t2 : decide ((40 : Int) ≤ ((20 : Nat) : Int)) = false := rfl
    have t3 : decide ((20 : Int) < ((20 : Nat) : Int)) = false := rfl
    go_enter Tryd.func76, Tryd.ntmps76
    go_wp2_with fail
    go_loopg [7, 8] 2 (fun g v u wr => (g = 2 ∧ v = .int .i64 0 ∧ u = .int .i64 20 ∧ wr = w) ∨ (g = 1 ∧ v = .int .i64 20 ∧ u = .int .i64 40 ∧ ∃ ys, SrtTo ds ys 20 ∧ PSt B0 w b off C wr ys))
    case atStart => exact .inl ⟨rfl, rfl, rfl, rfl⟩
    case round =>
      rcases hrel with ⟨rfl, rfl, rfl, rfl⟩ | ⟨rfl, rfl, rfl, hh⟩
      · go_wp2_with fail
        refine HI.out.mono ?_
        rintro e w1 ⟨rfl, hh⟩
        have Hh := Lib.hid hh
        clear hh
        go_wp2_with fail
        go_roundg 1
        case measure => omega
        case rel => exact .inr ⟨rfl, rfl, rfl, Hh.out⟩
      · have Hh := Lib.hid hh
        clear hh
        go_wp2_with fail
        refine (HN.out _ C 20 20 wr (Nat.le_refl _) (by omega)).mono ?_
        rintro e w1 ⟨rfl, rfl⟩
        go_wp2_with fail
        go_loopg [6] 1 (fun g v ws => g = 1 ∧ v = .int .i64 20 ∧ ∃ ys, SrtTo ds ys 20 ∧ PSt B0 w b off C ws ys)
        case atStart => exact ⟨rfl, rfl, Hh.out⟩
        case round =>
          obtain ⟨rfl, rfl, hh⟩ := hrel
          have Hz := Lib.hid hh
          clear hh
          go_wp2_with fail
          refine bodyPost_end (results_none rfl _ _ _) rfl ?_
          exact ⟨rfl, Hz.out⟩
  · have t1 : decide ((20 : Int) ≤ (n : Int)) = false := decide_eq_false (by omega)
    have t3 : decide ((20 : Int) < (n : Int)) = false := decide_eq_false (by omega)
    go_enter Tryd.func76, Tryd.ntmps76
    go_wp2_with fail
    go_loopg [7, 8] 1 (fun g v u wr => g = 1 ∧ v = .int .i64 0 ∧ u = .int .i64 20 ∧ wr = w)
    case atStart => exact ⟨rfl, rfl, rfl, rfl⟩
    case round =>
      obtain ⟨rfl, rfl, rfl, rfl⟩ := hrel
      go_wp2_with fail
      refine HI.out.mono ?_
      rintro e w1 ⟨rfl, hh⟩
      have Hh := Lib.hid hh
      clear hh
      go_wp2_with fail
      go_loopg [6] 1 (fun g v ws => g = 1 ∧ v = .int .i64 20 ∧ ∃ ys, SrtTo ds ys n ∧ PSt B0 wr b off C ws ys)
      case atStart => exact ⟨rfl, rfl, Hh.out⟩
      case round =>
        obtain ⟨rfl, rfl, hh⟩ := hrel
        have Hz := Lib.hid hh
        clear hh
        go_wp2_with fail
        refine bodyPost_end (results_none rfl _ _ _) rfl ?_
        exact ⟨rfl, Hz.out⟩
theorem sstable_any (B0 b off C : Nat) (ds : List Dgm) (w : World) (hbd : ∀ d, d ∈ ds → d.1.length ≤ 1000000 ∧ d.2.1.length ≤ 1000000) (h0 : 0 < ds.length) (hn : ds.length ≤ 20) (h : PSt B0 w b off C w ds) :
    Calls Tryd.prog 67 #[.slice (some ⟨b, off, none⟩) ds.length C, .func (.func 68) #[] #[]] w fun e w' => e = .returned (.tuple #[]) ∧ ∃ ys, SrtTo ds ys ds.length ∧ PSt B0 w b off C w' ys := by
  have HC := Lib.hid (stable_any B0 b off C ds w hbd h0 hn h)
  clear hbd h0 hn h
  generalize ds.length = n at *
  go_enter Tryd.func67, Tryd.ntmps67
  go_wp2_with fail
  refine HC.out.mono ?_
  rintro e w1 ⟨rfl, hh⟩
  have Hh := Lib.hid hh
  clear hh
  go_wp2_with fail
  refine bodyPost_end (results_none rfl _ _ _) rfl ?_
  exact ⟨rfl, Hh.out⟩
theorem stable_none (A : Option Addr) (C : Nat) (w : World) : Calls Tryd.prog 76 #[.slice A 0 C, .int .i64 0, .func (.func 68) #[] #[]] w fun e w' => e = .returned (.tuple #[]) ∧ w' = w := by
  have HN := Lib.hid (insort_none A C 0 0 w (Nat.le_refl _) (by omega))
  have t1 : decide ((20 : Int) ≤ 0) = false := rfl
  have t3 : decide ((20 : Int) < 0) = false := rfl
  go_enter Tryd.func76, Tryd.ntmps76
  go_wp2_with fail
  go_loopg [7, 8] 1 (fun g v u wr => g = 1 ∧ v = .int .i64 0 ∧ u = .int .i64 20 ∧ wr = w)
  case atStart => exact ⟨rfl, rfl, rfl, rfl⟩
  case round =>
    obtain ⟨rfl, rfl, rfl, rfl⟩ := hrel
    go_wp2_with fail
    refine HN.out.mono ?_
    rintro e w1 ⟨rfl, rfl⟩
    go_wp2_with fail
    go_loopg [6] 1 (fun g v ws => g = 1 ∧ v = .int .i64 20 ∧ ws = w1)
    case atStart => exact ⟨rfl, rfl, rfl⟩
    case round =>
      obtain ⟨rfl, rfl, rfl⟩ := hrel
      go_wp2_with fail
      refine bodyPost_end (results_none rfl _ _ _) rfl ?_
      exact ⟨rfl, rfl⟩
theorem sstable_none (A : Option Addr) (C : Nat) (w : World) : Calls Tryd.prog 67 #[.slice A 0 C, .func (.func 68) #[] #[]] w fun e w' => e = .returned (.tuple #[]) ∧ w' = w := by
  have HC := Lib.hid (stable_none A C w)
  go_enter Tryd.func67, Tryd.ntmps67
  go_wp2_with fail
  refine HC.out.mono ?_
  rintro e w1 ⟨rfl, rfl⟩
  go_wp2_with fail
  refine bodyPost_end (results_none rfl _ _ _) rfl ?_
  exact ⟨rfl, rfl⟩
end Go.Proofs.YtmhhjchnjaefhaaDoor


namespace Go.Proofs.YtmhhjchnjaefhaaDoor
open Go Go.RowKit
theorem Tryd.info51 : (Tryd.prog.info? 51).map (fun i => (i.zero, i.size, i.bytes)) = some (some (.agg #[.slice none 0 0, .slice none 0 0, .int .i64 0]), 3, 56) := by kernel_rfl
/-- The three cells of a box are written; all else stays. -/
theorem HH.put3 {w0 w : World} {y : Nat × (Obj → Prop)} {s : List SlO} {q : Nat} {v0 v1 v2 : Value} (h : HH w0 w [y, (q, rowO 51 [v0, v1, v2])] s) (u0 u1 u2 : Value) :
    HH w0 (((w.setCell ⟨q, 0, none⟩ u0).setCell ⟨q, 1, none⟩ u1).setCell ⟨q, 2, none⟩ u2) [y, (q, rowO 51 [u0, u1, u2])] s ∧
    (∀ (B0 : Nat) (a : Option Addr) (xs : List Int), B0 ≤ w0.heap.size → TI w B0 a xs → TI (((w.setCell ⟨q, 0, none⟩ u0).setCell ⟨q, 1, none⟩ u1).setCell ⟨q, 2, none⟩ u2) B0 a xs) ∧
    (∀ (B0 : Nat) (vs : List Value) (ds : List Dgm), B0 ≤ w0.heap.size → CellsOf w B0 vs ds → CellsOf (((w.setCell ⟨q, 0, none⟩ u0).setCell ⟨q, 1, none⟩ u1).setCell ⟨q, 2, none⟩ u2) B0 vs ds) ∧
    (∀ (B : Nat) (a : Option Addr) (c : Nat) (xss : List (List Int)), OwnRows w B a c xss → OwnRows (((w.setCell ⟨q, 0, none⟩ u0).setCell ⟨q, 1, none⟩ u1).setCell ⟨q, 2, none⟩ u2) B a c xss) := by
  have h1 := h.set (k := 1) rfl 0 u0
  have h2 := h1.set (k := 1) rfl 1 u1
  have h3 := h2.set (k := 1) rfl 2 u2
  have hr := h.row (k := 1) rfl
  have ho := hr.own (h.obj (k := 1) rfl).1
  have t1 := turned_set w q 0 0 u0
  have t2 := turned_set (w.setCell ⟨q, 0, none⟩ u0) q 0 1 u1
  have t3 := turned_set ((w.setCell ⟨q, 0, none⟩ u0).setCell ⟨q, 1, none⟩ u1) q 0 2 u2
  have tt := (t1.trans' t2).trans' t3
  exact ⟨h3, fun B0 a xs hB ht => ht.turned (by decide) hB ho tt, fun B0 vs ds hB hc => hc.turned (by decide) hB ho tt, fun B a c xss hx => hx.turned ho (by decide) (by decide) tt⟩
end Go.Proofs.YtmhhjchnjaefhaaDoor


