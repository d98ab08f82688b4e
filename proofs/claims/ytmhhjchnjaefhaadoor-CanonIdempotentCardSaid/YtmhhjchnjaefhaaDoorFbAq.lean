/- The walk of diagram.Renumber. -/
import Derived.Deep.DeepCutAuto
import Derived.Deep.Matrix
import Derived.WalkKit
import Derived.WalkSpells
import Derived.WalkLawsBesides
import Derived.Deep.AppendSrc
import Derived.Deep.LoopGhost
import Derived.Deep.QuietTactic
import Derived.Deep.RegionWith
import Derived.Deep.DeepMust
import Derived.Deep.DeepFit
import Derived.BigQuiet
import Derived.Lib.Hide
import Derived.Outline
import Derived.Test.YtmhhjchnjaefhaaDoorProg
import Derived.Deep.RegionLaw
import Derived.Deep.RegionHeld3
import Derived.Lib.SliceRun
import Derived.Shelf.Strings.Builder1
import Derived.Shelf.Small.Wraps
import Derived.Shelf.Strings.BuilderF
import Derived.Shelf.Strings.BuilderK
import Derived.Shelf.Strconv.Itoa0
import Derived.Shelf.Strconv.Itoa1
import Derived.Shelf.LaysM
import Derived.Shelf.Strconv.Itoa2
import Derived.Shelf.Strconv.Itoa3
import Derived.Shelf.Slices.Equal
import Derived.Ground.Names2Prog
import Derived.Shelf.Slices.Clone
import Derived.Shelf.Slices.SearchI
import Derived.Shelf.Slices.Empties2
import Derived.Ground.SlgnProg
import Derived.Shelf.SlicesE.Clone
import Derived.Sort.OwnSortedInts
import Derived.Shelf.Small.Bits
import Derived.Shelf.Sort.Plain
import Derived.Shelf.Slices.Turned
import Derived.Shelf.Slices.CompactI
import Derived.Shelf.Slices.Cells
import Derived.Shelf.Slices.In.SortNone
import Derived.Lib.AppendZeros
import Derived.Deep.RegionHeld
import Derived.Test.YtmhhjchnjaefhaaDoorFbAa
import Derived.Test.YtmhhjchnjaefhaaDoorFbAb
import Derived.Test.YtmhhjchnjaefhaaDoorFbAc
import Derived.Test.YtmhhjchnjaefhaaDoorFbAd
import Derived.Test.YtmhhjchnjaefhaaDoorFbAe
import Derived.Test.YtmhhjchnjaefhaaDoorFbAf
import Derived.Test.YtmhhjchnjaefhaaDoorFbAg
import Derived.Test.YtmhhjchnjaefhaaDoorFbAh
import Derived.Test.YtmhhjchnjaefhaaDoorFbAi
import Derived.Test.YtmhhjchnjaefhaaDoorFbAj
import Derived.Test.YtmhhjchnjaefhaaDoorFbAk
import Derived.Test.YtmhhjchnjaefhaaDoorFbAl
import Derived.Test.YtmhhjchnjaefhaaDoorFbAm
import Derived.Test.YtmhhjchnjaefhaaDoorFbAn
namespace Go.Proofs.YtmhhjchnjaefhaaDoor
open Go Go.RowKit
namespace Shape
variable {S M : List Int} {L : Int} (hs : Shape S M L)
include hs
theorem cast (i : Nat) (hi : i < 4 * S.length) : ((nth M i).toNat : Int) = nth M i := by have := hs.range i hi; omega
end Shape
theorem nth_row (h : Nat → Int) (K k : Nat) (hk : k < K) : nth ((List.range K).map h) k = h k := by simp [nth, hk]
/-- A sum of the first k. -/
def wsum (g : Nat → Int) : Nat → Int
  | 0 => 0
  | k + 1 => wsum g k + g k
/-- The writhe; the sum of the signs of the crossings of two strands. -/
def wr (S : List Int) : Int := wsum (nth S) S.length
/-- A list filled up to k. -/
def fillTo (n : Nat) (g : Nat → Int) : Nat → List Int
  | 0 => List.replicate n 0
  | k + 1 => (fillTo n g k).set k (g k)
def fillL (n : Nat) (g : Nat → Int) : List Int := (List.range n).map g
theorem fillTo_len (n : Nat) (g : Nat → Int) (k : Nat) : (fillTo n g k).length = n := by
  induction k with
  | zero => simp [fillTo]
  | succ k ih => simp [fillTo, ih]
theorem nth_fillTo (n : Nat) (g : Nat → Int) (k : Nat) (hk : k ≤ n) (i : Nat) (hi : i < k) : nth (fillTo n g k) i = g i := by
  induction k with
  | zero => omega
  | succ k ih =>
    rw [fillTo, nth_set _ _ _ _ (by rw [fillTo_len]; omega)]
    by_cases e : k = i
    · rw [if_pos e, e]
    · rw [if_neg e]; exact ih (by omega) (by omega)
theorem fillL_len (n : Nat) (g : Nat → Int) : (fillL n g).length = n := by simp [fillL]
theorem nth_fillL (n : Nat) (g : Nat → Int) (i : Nat) (hi : i < n) : nth (fillL n g) i = g i := nth_row _ _ _ hi
theorem fillTo_all (n : Nat) (g : Nat → Int) : fillTo n g n = fillL n g := by
  refine ext_nth (by rw [fillTo_len, fillL_len]) fun i hi => ?_
  rw [fillTo_len] at hi
  rw [nth_fillTo n g _ (Nat.le_refl _) i hi, nth_fillL n g i hi]
/-- The crossing that gets the number i. -/
def ordN (O : List Int) (i : Nat) : Nat := (nth O i).toNat
/-- The numbers, after i crossings. -/
def numTo (O : List Int) (n : Nat) : Nat → List Int
  | 0 => fillL n fun _ => -1
  | i + 1 => (numTo O n i).set (ordN O i) (i : Int)
def goodAt (O : List Int) (n i : Nat) : Prop := 0 ≤ nth O i ∧ nth O i < (n : Int) ∧ nth (numTo O n i) (ordN O i) < 0
theorem numTo_len (O : List Int) (n i : Nat) : (numTo O n i).length = n := by
  induction i with
  | zero => rw [numTo, fillL_len]
  | succ i ih => rw [numTo, List.length_set, ih]
theorem numTo_bd (O : List Int) (n i : Nat) (c : Nat) : -1 ≤ nth (numTo O n i) c ∧ nth (numTo O n i) c ≤ (i : Int) := by
  rcases Nat.lt_or_ge c n with h | h
  · induction i with
    | zero => rw [numTo, nth_fillL _ _ _ h]; omega
    | succ i ih =>
      rw [numTo]
      rcases Nat.lt_or_ge (ordN O i) n with g | g
      · rw [nth_set _ _ _ _ (by rw [numTo_len]; exact g)]
        split <;> omega
      · rw [List.set_eq_of_length_le (by rw [numTo_len]; exact g)]; omega
  · rw [nth_out _ _ (by rw [numTo_len]; exact h)]; omega
section
variable {O : List Int} {n : Nat} (hg : ∀ i, i < n → goodAt O n i)
include hg
theorem ordN_lt {i : Nat} (hi : i < n) : ordN O i < n := by have := hg i hi; unfold goodAt at this; unfold ordN; omega
theorem numTo_at {i : Nat} : ∀ k, k ≤ n → i < k → nth (numTo O n k) (ordN O i) = (i : Int) := by
  intro k
  induction k with
  | zero => omega
  | succ k ih =>
    intro hk hi
    have hl := ordN_lt hg (i := k) (by omega)
    rw [numTo, nth_set _ _ _ _ (by rw [numTo_len]; exact hl)]
    by_cases e : i = k
    · subst e; rw [if_pos rfl]
    · have h1 := ih (by omega) (by omega)
      by_cases g : ordN O k = ordN O i
      · have h2 := (hg k (by omega)).2.2
        rw [g, h1] at h2
        omega
      · rw [if_neg g]; exact h1
theorem ordN_inj : Inj (ordN O) n := by
  refine ⟨fun i hi => ordN_lt hg hi, fun i j hi hj he => ?_⟩
  have h1 := numTo_at hg n (Nat.le_refl _) hi
  have h2 := numTo_at hg n (Nat.le_refl _) hj
  rw [he] at h1
  omega
/-- The number of a crossing. -/
theorem num_back {c : Nat} (hc : c < n) : nth (numTo O n n) c = ((back (ordN O) n c : Nat) : Int) ∧ back (ordN O) n c < n ∧ ordN O (back (ordN O) n c) = c := by
  have hi := ordN_inj hg
  have h1 := back_lt hi hc
  have h2 := f_back hi hc
  refine ⟨?_, h1, h2⟩
  have := numTo_at hg n (Nat.le_refl _) h1
  rw [h2] at this
  exact this
end
def rnS (S O : List Int) (n : Nat) : List Int := fillL n fun i => nth S (ordN O i)
/-- What stands at half-edge h of the new diagram. -/
def rnAt (M O : List Int) (n h : Nat) : Int := 4 * nth (numTo O n n) (mt M (4 * ordN O (h / 4) + h % 4) / 4) + ((mt M (4 * ordN O (h / 4) + h % 4) % 4 : Nat) : Int)
def rnM (M O : List Int) (n : Nat) : List Int := fillL (4 * n) (rnAt M O n)
def rnT (O : List Int) (n x : Nat) : Nat := 4 * back (ordN O) n (x / 4) + x % 4
section
variable {S M : List Int} {L : Int} {O : List Int} (hv : vldB S M L = true) (hg : ∀ i, i < S.length → goodAt O S.length i)
include hv hg
theorem rn_iso : Iso M (rnM M O S.length) S.length (rnT O S.length) 1 := by
  have hs := vldB_shape hv
  have hb : ∀ c, c < S.length → back (ordN O) S.length c < S.length := fun c hc => (num_back hg hc).2.1
  refine ⟨⟨fun x hx => ?_, fun x y hx hy he => ?_⟩, fun x hx => ?_, fun x hx => ?_, .inl rfl⟩
  · have := hb (x / 4) (by omega)
    unfold rnT; omega
  · unfold rnT at he
    have h1 : back (ordN O) S.length (x / 4) = back (ordN O) S.length (y / 4) := by omega
    have h2 := (num_back hg (c := x / 4) (by omega)).2.2
    have h3 := (num_back hg (c := y / 4) (by omega)).2.2
    rw [h1, h3] at h2
    omega
  · have h1 := hb (x / 4) (by omega)
    have h2 := (num_back hg (c := x / 4) (by omega)).2.2
    have e1 : rnT O S.length x / 4 = back (ordN O) S.length (x / 4) := by unfold rnT; omega
    have e2 : rnT O S.length x % 4 = x % 4 := by unfold rnT; omega
    rw [rnM, nth_fillL _ _ _ (by unfold rnT; omega)]
    unfold rnAt
    rw [e1, e2, h2, show 4 * (x / 4) + x % 4 = x from by omega]
    have h3 := hs.mt_lt hx
    rw [(num_back hg (c := mt M x / 4) (by omega)).1]
    unfold rnT
    omega
  · have h1 := tn_div x 1
    have h2 := tn_mod x 1
    have e1 : rnT O S.length x / 4 = back (ordN O) S.length (x / 4) := by unfold rnT; omega
    have e2 : rnT O S.length x % 4 = x % 4 := by unfold rnT; omega
    have h3 := tn_div (rnT O S.length x) 1
    have h4 := tn_mod (rnT O S.length x) 1
    have h5 : rnT O S.length (tn x 1) = 4 * back (ordN O) S.length (tn x 1 / 4) + tn x 1 % 4 := rfl
    rw [h5, h1, h2]
    rw [e1] at h3
    rw [e2] at h4
    omega
end
theorem Shape.signBd {S M : List Int} {L : Int} (hs : Shape S M L) (c : Nat) : -1 ≤ nth S c ∧ nth S c ≤ 1 := by
  rcases Nat.lt_or_ge c S.length with h | h
  · rcases hs.sign c h with h | h <;> omega
  · rw [nth_out _ _ h]; omega
theorem run_mk (n : Nat) (hn : n ≤ 1000000) (W : World) : (Instr.makeSlice 22 (.int .i64 (n : Int)) (.int .i64 (n : Int))).run Tryd.prog W = .ok (.slice (some ⟨W.heap.size, 0, none⟩) n n) (W.alloc (.cells (Array.replicate n (.int .i64 0)) 3)) := by
  obtain ⟨i0, hi0, hz0, hz1, hz2⟩ := info_parts Tryd.info3
  have hr := run_make (P := Tryd.prog) W 22 3 i0 (.int .i64 0) Tryd.underlying22 hi0 hz0 .i64 .i64 n n (by omega) (Int.le_refl _) (by rw [hz2]; omega) (by omega)
  simp only [Int.toNat_natCast, hz1, Nat.mul_one] at hr
  have hm : madeCells (Value.int .i64 0).cells n = Array.replicate n (.int .i64 0) := by
    apply Array.ext'
    show (madeCells #[Value.int .i64 0] n).toList = _
    rw [toList_madeCells_one, Array.toList_replicate]
  rw [hm] at hr
  exact hr
theorem zeros_ints (n : Nat) : (Array.replicate n (Value.int .i64 0)).toList = ints (List.replicate n 0) := by simp [ints]
/-- Three new rows. -/
theorem alloc3_rows (W : World) (c0 c1 c2 : Array Value) (E0 E1 E2 : TypeId) : Row (((W.alloc (.cells c0 E0)).alloc (.cells c1 E1)).alloc (.cells c2 E2)) W.heap.size E0 c0.toList ∧ Row (((W.alloc (.cells c0 E0)).alloc (.cells c1 E1)).alloc (.cells c2 E2)) (W.heap.size + 1) E1 c1.toList ∧ Row (((W.alloc (.cells c0 E0)).alloc (.cells c1 E1)).alloc (.cells c2 E2)) (W.heap.size + 1 + 1) E2 c2.toList := by
  refine ⟨((Row.new W c0 E0).alloc _).alloc _, ?_, ?_⟩
  · have := (Row.new (W.alloc (.cells c0 E0)) c1 E1).alloc (.cells c2 E2)
    simpa using this
  · have := Row.new ((W.alloc (.cells c0 E0)).alloc (.cells c1 E1)) c2 E2
    simpa using this
theorem Shape.mtOk {S M : List Int} {L : Int} (hs : Shape S M L) : ∀ x, x < 4 * S.length → nth M x = ((mt M x : Nat) : Int) ∧ mt M x < 4 * S.length := fun x hx => ⟨(hs.cast x hx).symm, hs.mt_lt hx⟩
/-- A boxed result of three cells, stored. -/
theorem res_set {w : World} {b : Nat} {x0 x1 x2 : Value} (h : Row w b 24 [x0, x1, x2]) (u0 u1 u2 : Value) : Row (((w.setCell ⟨b, 0, none⟩ u0).setCell ⟨b, 1, none⟩ u1).setCell ⟨b, 2, none⟩ u2) b 24 [u0, u1, u2] := ((h.set 0 u0).set 1 u1).set 2 u2
/-- While the numbers are made. -/
structure RnA (w wx : World) (box : List Value) (bN : Nat) (xs : List Int) : Prop where
  N : Row wx bN 3 (ints xs)
  box : Row wx w.heap.size 24 box
  res : Row wx (w.heap.size + 1) 24 [.slice none 0 0, .slice none 0 0, .int .i64 0]
  below : Below w.heap.size w wx
  lo : w.heap.size + 2 ≤ bN
theorem RnA.set {w wx : World} {box : List Value} {bN : Nat} {xs : List Int} (h : RnA w wx box bN xs) (i : Nat) (x : Int) : RnA w (wx.setCell ⟨bN, i, none⟩ (.int .i64 x)) box bN (xs.set i x) :=
  ⟨h.N.setInt i x, h.box.setOther _ _ (by have := h.lo; show w.heap.size ≠ bN; omega), h.res.setOther _ _ (by have := h.lo; show w.heap.size + 1 ≠ bN; omega), h.below.setCell (by have := h.lo; show w.heap.size ≤ bN; omega) _, h.lo⟩
/-- While the diagram is made. -/
structure RnB (w wx : World) (box : List Value) (bN : Nat) (ns : List Int) (L : Int) (nS nM bD bS bM : Nat) (xs ys : List Int) : Prop where
  A : RnA w wx box bN ns
  D : Row wx bD 24 [.slice (some ⟨bS, 0, none⟩) nS nS, .slice (some ⟨bM, 0, none⟩) nM nM, .int .i64 L]
  S : Row wx bS 3 (ints xs)
  M : Row wx bM 3 (ints ys)
  lo : w.heap.size + 2 ≤ bD ∧ w.heap.size + 2 ≤ bS ∧ w.heap.size + 2 ≤ bM
  ne : bD ≠ bS ∧ bD ≠ bM ∧ bS ≠ bM ∧ bN ≠ bD ∧ bN ≠ bS ∧ bN ≠ bM
theorem RnA.up {w wx wy : World} {box : List Value} {bN : Nat} {ns : List Int} (h : RnA w wx box bN ns) (hb : Below wx.heap.size wx wy) : RnA w wy box bN ns :=
  ⟨h.N.later hb h.N.lt, h.box.later hb h.box.lt, h.res.later hb h.res.lt, below_step h.below hb, h.lo⟩
theorem rnb_begin (w wr : World) (box : List Value) (bN : Nat) (ns : List Int) (hA : RnA w wr box bN ns) (o0 o1 o2 : Array Value) (E0 E1 E2 : TypeId) (L : Int) (nS nM bD bS bM : Nat)
    (hD : ((wr.heap.size = bD ∧ o0.toList = [.slice (some ⟨bS, 0, none⟩) nS nS, .slice (some ⟨bM, 0, none⟩) nM nM, .int .i64 L] ∧ E0 = 24) ∨ (wr.heap.size + 1 = bD ∧ o1.toList = [.slice (some ⟨bS, 0, none⟩) nS nS, .slice (some ⟨bM, 0, none⟩) nM nM, .int .i64 L] ∧ E1 = 24) ∨ (wr.heap.size + 2 = bD ∧ o2.toList = [.slice (some ⟨bS, 0, none⟩) nS nS, .slice (some ⟨bM, 0, none⟩) nM nM, .int .i64 L] ∧ E2 = 24)))
    (hS : ((wr.heap.size = bS ∧ o0 = Array.replicate nS (.int .i64 0) ∧ E0 = 3) ∨ (wr.heap.size + 1 = bS ∧ o1 = Array.replicate nS (.int .i64 0) ∧ E1 = 3) ∨ (wr.heap.size + 2 = bS ∧ o2 = Array.replicate nS (.int .i64 0) ∧ E2 = 3)))
    (hM : ((wr.heap.size = bM ∧ o0 = Array.replicate nM (.int .i64 0) ∧ E0 = 3) ∨ (wr.heap.size + 1 = bM ∧ o1 = Array.replicate nM (.int .i64 0) ∧ E1 = 3) ∨ (wr.heap.size + 2 = bM ∧ o2 = Array.replicate nM (.int .i64 0) ∧ E2 = 3)))
    (hne : bD ≠ bS ∧ bD ≠ bM ∧ bS ≠ bM) :
    RnB w (((wr.alloc (.cells o0 E0)).alloc (.cells o1 E1)).alloc (.cells o2 E2)).drew box bN ns L nS nM bD bS bM (List.replicate nS 0) (List.replicate nM 0) := by
  obtain ⟨c0, c1, c2⟩ := alloc3_rows wr o0 o1 o2 E0 E1 E2
  have hb : Below wr.heap.size wr (((wr.alloc (.cells o0 E0)).alloc (.cells o1 E1)).alloc (.cells o2 E2)).drew := ((((Below.refl _ _).alloc (Nat.le_refl _) _).alloc (by simp) _).alloc (by simp; omega) _).drew
  have hl := hA.N.lt
  have hl2 := hA.lo
  refine ⟨hA.up hb, ?_, ?_, ?_, ?_, ?_⟩
  · rcases hD with ⟨h1, h2, h3⟩ | ⟨h1, h2, h3⟩ | ⟨h1, h2, h3⟩
    · subst h1; subst h3; rw [← h2]; exact c0
    · subst h1; subst h3; rw [← h2]; exact c1
    · subst h1; subst h3; rw [← h2]; exact c2
  · rw [← zeros_ints]
    rcases hS with ⟨h1, h2, h3⟩ | ⟨h1, h2, h3⟩ | ⟨h1, h2, h3⟩
    · subst h1; subst h3; rw [← h2]; exact c0
    · subst h1; subst h3; rw [← h2]; exact c1
    · subst h1; subst h3; rw [← h2]; exact c2
  · rw [← zeros_ints]
    rcases hM with ⟨h1, h2, h3⟩ | ⟨h1, h2, h3⟩ | ⟨h1, h2, h3⟩
    · subst h1; subst h3; rw [← h2]; exact c0
    · subst h1; subst h3; rw [← h2]; exact c1
    · subst h1; subst h3; rw [← h2]; exact c2
  · rcases hD with ⟨h1, _⟩ | ⟨h1, _⟩ | ⟨h1, _⟩ <;> rcases hS with ⟨h2, _⟩ | ⟨h2, _⟩ | ⟨h2, _⟩ <;> rcases hM with ⟨h3, _⟩ | ⟨h3, _⟩ | ⟨h3, _⟩ <;> omega
  · rcases hD with ⟨h1, _⟩ | ⟨h1, _⟩ | ⟨h1, _⟩ <;> rcases hS with ⟨h2, _⟩ | ⟨h2, _⟩ | ⟨h2, _⟩ <;> rcases hM with ⟨h3, _⟩ | ⟨h3, _⟩ | ⟨h3, _⟩ <;> omega
theorem RnB.setS {w wx : World} {box : List Value} {bN : Nat} {ns : List Int} {L : Int} {nS nM bD bS bM : Nat} {xs ys : List Int} (h : RnB w wx box bN ns L nS nM bD bS bM xs ys) (i : Nat) (x : Int) : RnB w (wx.setCell ⟨bS, i, none⟩ (.int .i64 x)).drew box bN ns L nS nM bD bS bM (xs.set i x) ys := by
  obtain ⟨⟨a1, a2, a3, a4, a5⟩, k1, k2, k3, k4, k5⟩ := h
  exact ⟨⟨a1.setOther _ _ (by simp; omega), a2.setOther _ _ (by simp; omega), a3.setOther _ _ (by simp; omega), (a4.setCell (by simp; omega) _).drew, a5⟩, k1.setOther _ _ k5.1, k2.setInt _ _, k3.setOther _ _ (fun e => k5.2.2.1 e.symm), k4, k5⟩
theorem RnB.setM {w wx : World} {box : List Value} {bN : Nat} {ns : List Int} {L : Int} {nS nM bD bS bM : Nat} {xs ys : List Int} (h : RnB w wx box bN ns L nS nM bD bS bM xs ys) (i : Nat) (x : Int) : RnB w (wx.setCell ⟨bM, i, none⟩ (.int .i64 x)).drew box bN ns L nS nM bD bS bM xs (ys.set i x) := by
  obtain ⟨⟨a1, a2, a3, a4, a5⟩, k1, k2, k3, k4, k5⟩ := h
  exact ⟨⟨a1.setOther _ _ (by simp; omega), a2.setOther _ _ (by simp; omega), a3.setOther _ _ (by simp; omega), (a4.setCell (by simp; omega) _).drew, a5⟩, k1.setOther _ _ k5.2.1, k2.setOther _ _ k5.2.2.1, k3.setInt _ _, k4, k5⟩
/-- A diagram of the call's own. -/
def DgW (w : World) (S' M' : List Int) (L' : Int) (e : Ending) (w' : World) : Prop :=
  ∃ (a b : Option Addr) (c d : Nat), e = .returned (.tuple #[.agg #[.slice a S'.length c, .slice b M'.length d, .int .i64 L'], .int .i64 0]) ∧ Own w' w.heap.size 3 a c (ints S') ∧ Own w' w.heap.size 3 b d (ints M') ∧ Below w.heap.size w w'
def RnR (w : World) (S M O : List Int) (L : Int) (e : Ending) (w' : World) : Prop :=
  (¬ (O.length = S.length ∧ ∀ i, i < S.length → goodAt O S.length i) ∧ e = .returned (.tuple #[.agg #[.slice none 0 0, .slice none 0 0, .int .i64 0], .int .i64 2]) ∧ Below w.heap.size w w') ∨
  ((O.length = S.length ∧ ∀ i, i < S.length → goodAt O S.length i) ∧ DgW w (rnS S O S.length) (rnM M O S.length) L e w')
set_option maxRecDepth 100000 in
set_option maxHeartbeats 16000000 in
theorem renumber_short (S M O : List Int) (L : Int) (aS aM aO : Option Addr) (cS cM cO : Nat) (w : World) (hv : vldB S M L = true) (hOl : O.length ≤ 1000000000) (hOn : O.length ≠ S.length) (hS : IntsAt w aS S) (hM : IntsAt w aM M) (hO : IntsAt w aO O) :
    Calls Tryd.prog 21 #[.agg #[.slice aS S.length cS, .slice aM M.length cM, .int .i64 L], .slice aO O.length cO] w (RnR w S M O L) := by
  have HOnn := Lib.hid hOn
  have hs := vldB_shape hv
  have hSl := hs.few
  have hMl : M.length ≤ 256 := by have := hs.len; omega
  have hM4a : 4 * S.length ≤ M.length := by have := hs.len; omega
  have hM4b : M.length ≤ 4 * S.length := by have := hs.len; omega
  have Hmt : Hid (∀ x, x < 4 * S.length → nth M x = ((mt M x : Nat) : Int) ∧ mt M x < 4 * S.length) := Lib.hid hs.mtOk
  have Hsb := Lib.hid hs.signBd
  obtain ⟨W, hW⟩ : ∃ W, W = (w.alloc (.cells #[.slice aS S.length cS, .slice aM M.length cM, .int .i64 L] 24)).alloc (.cells #[.slice none 0 0, .slice none 0 0, .int .i64 0] 24) := ⟨_, rfl⟩
  have hz : W.heap.size = w.heap.size + 2 := by rw [hW]; simp
  have r0 : Row W w.heap.size 24 [.slice aS S.length cS, .slice aM M.length cM, .int .i64 L] := by rw [hW]; exact (Row.new w #[.slice aS S.length cS, .slice aM M.length cM, .int .i64 L] 24).alloc _
  have r1 : Row W (w.heap.size + 1) 24 [.slice none 0 0, .slice none 0 0, .int .i64 0] := by
    have := Row.new (w.alloc (.cells #[.slice aS S.length cS, .slice aM M.length cM, .int .i64 L] 24)) #[.slice none 0 0, .slice none 0 0, .int .i64 0] 24
    rw [hW]; simpa using this
  have hB : Below w.heap.size w W := by rw [hW]; exact ((Below.refl _ _).alloc (Nat.le_refl _) _).alloc (by simp) _
  have HV : Hid (Calls Tryd.prog 18 #[.agg #[.slice aS S.length cS, .slice aM M.length cM, .int .i64 L]] W fun e w' => e = .returned (.bool true) ∧ Below W.heap.size W w') := Lib.hid (by
    rw [← hv]; exact valid_any S M L aS aM cS cM W (by omega) (by omega) (hS.later hB) (hM.later hB))
  have HS := Lib.hid hS
  have HM := Lib.hid hM
  have HO := Lib.hid hO
  have Hr0 := Lib.hid r0
  have Hr1 := Lib.hid r1
  have HB := Lib.hid hB
  have Hz := Lib.hid hz
  have HOn := Lib.hid hOn
  have hmk1 := run_mk S.length (by omega)
  have hmk2 := run_mk (4 * S.length) (by omega)
  simp only [show ((4 * S.length : Nat) : Int) = 4 * (S.length : Int) from by omega] at hmk2
  have hmk3 := run_mk M.length (by omega)
  clear hv hS hM hO r0 r1 hB hz hs hOn
  go_enter Tryd.func21, Tryd.ntmps21
  go_wp2_with fail
  rw [← hW]
  refine HV.out.mono ?_
  rintro e w1 ⟨rfl, hb1⟩
  have Hb1 := Lib.hid hb1
  have Hbb := Lib.hid (below_of HB.out hb1 HB.out.size)
  clear hb1 hW HV
  have hr := Hr0.out.later Hb1.out Hr0.out.lt
  have hc0 := hr.cell 0
  have hc1 := hr.cell 1
  have hc2 := hr.cell 2
  have hR := Hr1.out.later Hb1.out Hr1.out.lt
  have Hr0' := Lib.hid hr
  have Hr1' := Lib.hid hR
  simp only [List.getElem?_cons_succ, List.getElem?_cons_zero] at hc0 hc1 hc2
  clear hr
  have _ := hOl
  have dO : ¬ ((O.length : Int) = (S.length : Int)) := by have := HOn.out; omega
  have hR := hR
  have Hfin : Hid (Below w.heap.size w (((w1.setCell ⟨w.heap.size + 1, 0, none⟩ (.slice none 0 0)).setCell ⟨w.heap.size + 1, 1, none⟩ (.slice none 0 0)).setCell ⟨w.heap.size + 1, 2, none⟩ (.int .i64 0))) := Lib.hid (((Hbb.out.setCell (by simp) _).setCell (by simp) _).setCell (by simp) _)
  have hRf := res_set hR (.slice none 0 0) (.slice none 0 0) (.int .i64 0)
  have hF0 := hRf.cell 0
  have hF1 := hRf.cell 1
  have hF2 := hRf.cell 2
  have hd0 := hR.cell 0
  have hd1 := hR.cell 1
  have hd2 := hR.cell 2
  have hf0 := hR.frozen 0
  have hf1 := hR.frozen 1
  have hf2 := hR.frozen 2
  simp only [List.getElem?_cons_succ, List.getElem?_cons_zero] at hF0 hF1 hF2 hd0 hd1 hd2
  clear hR hRf
  go_wp2_with fail
  refine bodyPost_ret (v := .tuple #[.agg #[.slice none 0 0, .slice none 0 0, .int .i64 0], .int .i64 2]) (by simp [results, Tryd.results21, go_sem, hF0, hF1, hF2]) rfl ?_
  exact .inl ⟨fun h => HOnn.out h.1, rfl, Hfin.out⟩
set_option maxRecDepth 100000 in
set_option maxHeartbeats 16000000 in
theorem renumber_same (S M O : List Int) (L : Int) (aS aM aO : Option Addr) (cS cM cO : Nat) (w : World) (hv : vldB S M L = true) (hOn : O.length = S.length) (hS : IntsAt w aS S) (hM : IntsAt w aM M) (hO : IntsAt w aO O) :
    Calls Tryd.prog 21 #[.agg #[.slice aS S.length cS, .slice aM M.length cM, .int .i64 L], .slice aO S.length cO] w (RnR w S M O L) := by
  have hs := vldB_shape hv
  have hSl := hs.few
  have hMl : M.length ≤ 256 := by have := hs.len; omega
  have hM4a : 4 * S.length ≤ M.length := by have := hs.len; omega
  have hM4b : M.length ≤ 4 * S.length := by have := hs.len; omega
  have Hmt : Hid (∀ x, x < 4 * S.length → nth M x = ((mt M x : Nat) : Int) ∧ mt M x < 4 * S.length) := Lib.hid hs.mtOk
  have Hsb := Lib.hid hs.signBd
  obtain ⟨W, hW⟩ : ∃ W, W = (w.alloc (.cells #[.slice aS S.length cS, .slice aM M.length cM, .int .i64 L] 24)).alloc (.cells #[.slice none 0 0, .slice none 0 0, .int .i64 0] 24) := ⟨_, rfl⟩
  have hz : W.heap.size = w.heap.size + 2 := by rw [hW]; simp
  have r0 : Row W w.heap.size 24 [.slice aS S.length cS, .slice aM M.length cM, .int .i64 L] := by rw [hW]; exact (Row.new w #[.slice aS S.length cS, .slice aM M.length cM, .int .i64 L] 24).alloc _
  have r1 : Row W (w.heap.size + 1) 24 [.slice none 0 0, .slice none 0 0, .int .i64 0] := by
    have := Row.new (w.alloc (.cells #[.slice aS S.length cS, .slice aM M.length cM, .int .i64 L] 24)) #[.slice none 0 0, .slice none 0 0, .int .i64 0] 24
    rw [hW]; simpa using this
  have hB : Below w.heap.size w W := by rw [hW]; exact ((Below.refl _ _).alloc (Nat.le_refl _) _).alloc (by simp) _
  have HV : Hid (Calls Tryd.prog 18 #[.agg #[.slice aS S.length cS, .slice aM M.length cM, .int .i64 L]] W fun e w' => e = .returned (.bool true) ∧ Below W.heap.size W w') := Lib.hid (by
    rw [← hv]; exact valid_any S M L aS aM cS cM W (by omega) (by omega) (hS.later hB) (hM.later hB))
  have HS := Lib.hid hS
  have HM := Lib.hid hM
  have HO := Lib.hid hO
  have Hr0 := Lib.hid r0
  have Hr1 := Lib.hid r1
  have HB := Lib.hid hB
  have Hz := Lib.hid hz
  have HOn := Lib.hid hOn
  have hmk1 := run_mk S.length (by omega)
  have hmk2 := run_mk (4 * S.length) (by omega)
  simp only [show ((4 * S.length : Nat) : Int) = 4 * (S.length : Int) from by omega] at hmk2
  have hmk3 := run_mk M.length (by omega)
  clear hv hS hM hO r0 r1 hB hz hs hOn
  go_enter Tryd.func21, Tryd.ntmps21
  go_wp2_with fail
  rw [← hW]
  refine HV.out.mono ?_
  rintro e w1 ⟨rfl, hb1⟩
  have Hb1 := Lib.hid hb1
  have Hbb := Lib.hid (below_of HB.out hb1 HB.out.size)
  clear hb1 hW HV
  have hr := Hr0.out.later Hb1.out Hr0.out.lt
  have hc0 := hr.cell 0
  have hc1 := hr.cell 1
  have hc2 := hr.cell 2
  have hR := Hr1.out.later Hb1.out Hr1.out.lt
  have Hr0' := Lib.hid hr
  have Hr1' := Lib.hid hR
  simp only [List.getElem?_cons_succ, List.getElem?_cons_zero] at hc0 hc1 hc2
  clear hr
  have HA0 : Hid (RnA w (w1.alloc (.cells (Array.replicate S.length (.int .i64 0)) 3)) [.slice aS S.length cS, .slice aM M.length cM, .int .i64 L] w1.heap.size (fillTo S.length (fun _ => -1) 0)) := Lib.hid (by
    have hb : Below w1.heap.size w1 (w1.alloc (.cells (Array.replicate S.length (.int .i64 0)) 3)) := (Below.refl _ _).alloc (Nat.le_refl _) _
    refine ⟨?_, Hr0'.out.later hb Hr0'.out.lt, Hr1'.out.later hb Hr1'.out.lt, below_step Hbb.out hb, by have := Hb1.out.size; have := Hz.out; omega⟩
    have := Row.new w1 (Array.replicate S.length (.int .i64 0)) 3
    rw [zeros_ints] at this
    exact this)
  clear hR
  go_wp2_with fail
  clear hc0 hc1 hc2
  go_loopg [32] S.length (fun g i wr => ∃ c : Nat, c ≤ S.length ∧ g = S.length - c ∧ i = .int .i64 c ∧ RnA w wr [.slice aS S.length cS, .slice aM M.length cM, .int .i64 L] w1.heap.size (fillTo S.length (fun _ => -1) c))
  case atStart => exact ⟨0, Nat.zero_le _, rfl, rfl, HA0.out⟩
  case round =>
    clear HA0
    obtain ⟨c, hc, rfl, rfl, hA⟩ := hrel
    have HA := Lib.hid hA
    clear hA
    by_cases hcl : c < S.length
    · have hcX := HA.out.N.int c (by rw [fillTo_len]; exact hcl)
      have hfX := HA.out.N.frozen c
      have Hst := Lib.hid (HA.out.set c (-1))
      go_wp2_with fail
      go_roundg (S.length - (c + 1))
      case measure => omega
      case rel => exact ⟨c + 1, by omega, rfl, by go_num, Hst.out⟩
    · obtain rfl : c = S.length := by omega
      have HA1 : Hid (RnA w wr [.slice aS S.length cS, .slice aM M.length cM, .int .i64 L] w1.heap.size (numTo O S.length 0)) := Lib.hid (by
        have := HA.out
        rw [fillTo_all] at this
        exact this)
      clear HA
      go_wp2_with fail
      go_loopg [41] S.length (fun g i wr => ∃ c : Nat, c ≤ S.length ∧ g = S.length - c ∧ i = .int .i64 c ∧ (∀ j, j < c → goodAt O S.length j) ∧ RnA w wr [.slice aS S.length cS, .slice aM M.length cM, .int .i64 L] w1.heap.size (numTo O S.length c))
      case atStart => exact ⟨0, Nat.zero_le _, rfl, rfl, fun j hj => absurd hj (Nat.not_lt_zero _), HA1.out⟩
      case round =>
        clear HA1
        obtain ⟨c, hc, rfl, rfl, hgd, hA⟩ := hrel
        have HA := Lib.hid hA
        have Hgd := Lib.hid hgd
        clear hA hgd
        by_cases hcl : c < S.length
        · obtain ⟨bo, oo, hab, _, hcO⟩ := (HO.out.later HA.out.below).open (by have := HOn.out; omega)
          subst hab
          have hco := hcO c (by have := HOn.out; omega)
          clear hcO
          by_cases h0 : nth O c < 0
          · have Hng : Hid (¬ (O.length = S.length ∧ ∀ i, i < S.length → goodAt O S.length i)) := Lib.hid fun h => by have := (h.2 c hcl).1; omega
            generalize nth O c = v at *
            have hR := HA.out.res
            have Hfin : Hid (Below w.heap.size w (((wr.setCell ⟨w.heap.size + 1, 0, none⟩ (.slice none 0 0)).setCell ⟨w.heap.size + 1, 1, none⟩ (.slice none 0 0)).setCell ⟨w.heap.size + 1, 2, none⟩ (.int .i64 0))) := Lib.hid (((HA.out.below.setCell (by simp) _).setCell (by simp) _).setCell (by simp) _)
            have hRf := res_set hR (.slice none 0 0) (.slice none 0 0) (.int .i64 0)
            have hF0 := hRf.cell 0
            have hF1 := hRf.cell 1
            have hF2 := hRf.cell 2
            have hd0 := hR.cell 0
            have hd1 := hR.cell 1
            have hd2 := hR.cell 2
            have hf0 := hR.frozen 0
            have hf1 := hR.frozen 1
            have hf2 := hR.frozen 2
            simp only [List.getElem?_cons_succ, List.getElem?_cons_zero] at hF0 hF1 hF2 hd0 hd1 hd2
            clear hR hRf
            go_wp2_with fail
            refine bodyPost_ret (v := .tuple #[.agg #[.slice none 0 0, .slice none 0 0, .int .i64 0], .int .i64 2]) (by simp [results, Tryd.results21, go_sem, hF0, hF1, hF2]) rfl ?_
            exact .inl ⟨Hng.out, rfl, Hfin.out⟩
          · by_cases h1 : (S.length : Int) ≤ nth O c
            · have Hng : Hid (¬ (O.length = S.length ∧ ∀ i, i < S.length → goodAt O S.length i)) := Lib.hid fun h => by have := (h.2 c hcl).2.1; omega
              generalize nth O c = v at *
              have hR := HA.out.res
              have Hfin : Hid (Below w.heap.size w (((wr.setCell ⟨w.heap.size + 1, 0, none⟩ (.slice none 0 0)).setCell ⟨w.heap.size + 1, 1, none⟩ (.slice none 0 0)).setCell ⟨w.heap.size + 1, 2, none⟩ (.int .i64 0))) := Lib.hid (((HA.out.below.setCell (by simp) _).setCell (by simp) _).setCell (by simp) _)
              have hRf := res_set hR (.slice none 0 0) (.slice none 0 0) (.int .i64 0)
              have hF0 := hRf.cell 0
              have hF1 := hRf.cell 1
              have hF2 := hRf.cell 2
              have hd0 := hR.cell 0
              have hd1 := hR.cell 1
              have hd2 := hR.cell 2
              have hf0 := hR.frozen 0
              have hf1 := hR.frozen 1
              have hf2 := hR.frozen 2
              simp only [List.getElem?_cons_succ, List.getElem?_cons_zero] at hF0 hF1 hF2 hd0 hd1 hd2
              clear hR hRf
              go_wp2_with fail
              refine bodyPost_ret (v := .tuple #[.agg #[.slice none 0 0, .slice none 0 0, .int .i64 0], .int .i64 2]) (by simp [results, Tryd.results21, go_sem, hF0, hF1, hF2]) rfl ?_
              exact .inl ⟨Hng.out, rfl, Hfin.out⟩
            · obtain ⟨x, hx⟩ : ∃ x, x = ordN O c := ⟨_, rfl⟩
              have hx1 : nth O c = (x : Int) := by rw [hx]; unfold ordN; omega
              have hx2 : x < S.length := by omega
              have hcX := HA.out.N.int x (by rw [numTo_len]; exact hx2)
              have hfX := HA.out.N.frozen x
              have hbd := numTo_bd O S.length c x
              by_cases h2 : 0 ≤ nth (numTo O S.length c) x
              · have Hng : Hid (¬ (O.length = S.length ∧ ∀ i, i < S.length → goodAt O S.length i)) := Lib.hid fun h => by have := (h.2 c hcl).2.2; rw [← hx] at this; omega
                rw [hx1] at hco
                clear hx hx1 h0 h1
                generalize nth (numTo O S.length c) x = v at *
                have hR := HA.out.res
                have Hfin : Hid (Below w.heap.size w (((wr.setCell ⟨w.heap.size + 1, 0, none⟩ (.slice none 0 0)).setCell ⟨w.heap.size + 1, 1, none⟩ (.slice none 0 0)).setCell ⟨w.heap.size + 1, 2, none⟩ (.int .i64 0))) := Lib.hid (((HA.out.below.setCell (by simp) _).setCell (by simp) _).setCell (by simp) _)
                have hRf := res_set hR (.slice none 0 0) (.slice none 0 0) (.int .i64 0)
                have hF0 := hRf.cell 0
                have hF1 := hRf.cell 1
                have hF2 := hRf.cell 2
                have hd0 := hR.cell 0
                have hd1 := hR.cell 1
                have hd2 := hR.cell 2
                have hf0 := hR.frozen 0
                have hf1 := hR.frozen 1
                have hf2 := hR.frozen 2
                simp only [List.getElem?_cons_succ, List.getElem?_cons_zero] at hF0 hF1 hF2 hd0 hd1 hd2
                clear hR hRf
                go_wp2_with fail
                refine bodyPost_ret (v := .tuple #[.agg #[.slice none 0 0, .slice none 0 0, .int .i64 0], .int .i64 2]) (by simp [results, Tryd.results21, go_sem, hF0, hF1, hF2]) rfl ?_
                exact .inl ⟨Hng.out, rfl, Hfin.out⟩
              · have Hgd2 : Hid (∀ j, j < c + 1 → goodAt O S.length j) := Lib.hid fun j hj => by
                  rcases Nat.lt_or_ge j c with h | h
                  · exact Hgd.out j h
                  · obtain rfl : j = c := by omega
                    exact ⟨by omega, by omega, by rw [← hx]; omega⟩
                have Hst : Hid (RnA w (wr.setCell ⟨w1.heap.size, x, none⟩ (.int .i64 (c : Int))) [.slice aS S.length cS, .slice aM M.length cM, .int .i64 L] w1.heap.size (numTo O S.length (c + 1))) := Lib.hid (by
                  have := HA.out.set x (c : Int)
                  rw [hx] at this
                  rw [hx]
                  exact this)
                rw [hx1] at hco
                clear hx hx1 h0 h1
                generalize nth (numTo O S.length c) x = v at *
                go_wp2_with fail
                go_roundg (S.length - (c + 1))
                case measure => omega
                case rel => exact ⟨c + 1, by omega, rfl, by go_num, Hgd2.out, Hst.out⟩
        · obtain rfl : c = S.length := by omega
          have hl0 := HA.out.box.cell 2
          have hl1 := fun o => (HA.out.box.alloc o).cell 2
          have hl2 := fun o o' => ((HA.out.box.alloc o).alloc o').cell 2
          have hl3 := fun o o' o'' => (((HA.out.box.alloc o).alloc o').alloc o'').cell 2
          simp only [List.getElem?_cons_succ, List.getElem?_cons_zero] at hl0 hl1 hl2 hl3
          go_upto_region 19 with fail
          go_cut [11] (fun s11 wx => ∃ bD bS bM, s11 = .pointer (some ⟨bD, 0, none⟩) ∧ RnB w wx [.slice aS S.length cS, .slice aM M.length cM, .int .i64 L] w1.heap.size (numTo O S.length S.length) L S.length (4 * S.length) bD bS bM (List.replicate S.length 0) (List.replicate (4 * S.length) 0))
          case first =>
            go_region
            all_goals (go_wp2_with fail; go_meet)
            all_goals first
              | (refine ⟨_, wr.heap.size, wr.heap.size + 1, rfl, rnb_begin w wr _ _ _ HA.out _ _ _ _ _ _ L _ _ _ _ _ ?_ ?_ ?_ ?_⟩ <;> first | omega | (simp; done))
              | (refine ⟨_, wr.heap.size, wr.heap.size + 2, rfl, rnb_begin w wr _ _ _ HA.out _ _ _ _ _ _ L _ _ _ _ _ ?_ ?_ ?_ ?_⟩ <;> first | omega | (simp; done))
              | (refine ⟨_, wr.heap.size + 1, wr.heap.size, rfl, rnb_begin w wr _ _ _ HA.out _ _ _ _ _ _ L _ _ _ _ _ ?_ ?_ ?_ ?_⟩ <;> first | omega | (simp; done))
              | (refine ⟨_, wr.heap.size + 1, wr.heap.size + 2, rfl, rnb_begin w wr _ _ _ HA.out _ _ _ _ _ _ L _ _ _ _ _ ?_ ?_ ?_ ?_⟩ <;> first | omega | (simp; done))
              | (refine ⟨_, wr.heap.size + 2, wr.heap.size, rfl, rnb_begin w wr _ _ _ HA.out _ _ _ _ _ _ L _ _ _ _ _ ?_ ?_ ?_ ?_⟩ <;> first | omega | (simp; done))
              | (refine ⟨_, wr.heap.size + 2, wr.heap.size + 1, rfl, rnb_begin w wr _ _ _ HA.out _ _ _ _ _ _ L _ _ _ _ _ ?_ ?_ ?_ ?_⟩ <;> first | omega | (simp; done))
          case rest =>
            obtain ⟨bD, bS, bM, rfl, hB⟩ := hcut
            have HB0 := Lib.hid hB
            clear hB hmk1 hmk2 hmk3 hl0 hl1 hl2 hl3 HA
            go_wp2_with fail
            go_loopg [76] S.length (fun g i wr => ∃ c : Nat, c ≤ S.length ∧ g = S.length - c ∧ i = .int .i64 c ∧ RnB w wr [.slice aS S.length cS, .slice aM M.length cM, .int .i64 L] w1.heap.size (numTo O S.length S.length) L S.length (4 * S.length) bD bS bM (fillTo S.length (fun i => nth S (ordN O i)) c) (fillTo (4 * S.length) (rnAt M O S.length) (4 * c)))
            case atStart => exact ⟨0, Nat.zero_le _, rfl, rfl, HB0.out⟩
            case round =>
              clear HB0
              obtain ⟨c, hc, rfl, rfl, hB⟩ := hrel
              have HBb := Lib.hid hB
              clear hB
              by_cases hcl : c < S.length
              · obtain ⟨bs, os, hab, _, hcS⟩ := (HS.out.later HBb.out.A.below).open (by omega)
                subst hab
                obtain ⟨bo, oo, hab, _, hcO⟩ := (HO.out.later HBb.out.A.below).open (by have := HOn.out; omega)
                subst hab
                obtain ⟨x, hx⟩ : ∃ x, x = ordN O c := ⟨_, rfl⟩
                have hxl : x < S.length := by rw [hx]; exact ordN_lt Hgd.out hcl
                have hxo : nth O c = (x : Int) := by have := (Hgd.out c hcl).1; rw [hx]; unfold ordN; omega
                have hco := hcO c (by have := HOn.out; omega)
                rw [hxo] at hco
                have hcs := hcS x hxl
                have hcD := HBb.out.D.cell 0
                have hcB := HBb.out.A.box.cell 0
                simp only [List.getElem?_cons_zero] at hcD hcB
                have hcX := HBb.out.S.int c (by rw [fillTo_len]; exact hcl)
                have hfX := HBb.out.S.frozen c
                have Hst : Hid (RnB w ((wr.setCell ⟨bS, c, none⟩ (.int .i64 (nth S x))).drew) [.slice (some ⟨bs, os, none⟩) S.length cS, .slice aM M.length cM, .int .i64 L] w1.heap.size (numTo O S.length S.length) L S.length (4 * S.length) bD bS bM (fillTo S.length (fun i => nth S (ordN O i)) (c + 1)) (fillTo (4 * S.length) (rnAt M O S.length) (4 * c + 0))) := Lib.hid (by
                  have := HBb.out.setS c (nth S x)
                  rw [hx] at this
                  rw [hx]
                  exact this)
                have Hx := Lib.hid hx
                have hb0 := Hsb.out x
                generalize nth S x = sv at *
                generalize nth (fillTo S.length (fun i => nth S (ordN O i)) c) c = xv at *
                clear hcS hcO hxo hx HBb
                go_wp2_with fail
                go_region
                all_goals
                  clear hco hcs hcD hcB hcX hfX
                  go_wp2_with fail
                  go_loopg [90] 4 (fun g i wr => ∃ s : Nat, s ≤ 4 ∧ g = 4 - s ∧ i = .int .i64 s ∧ RnB w wr [.slice (some ⟨bs, os, none⟩) S.length cS, .slice aM M.length cM, .int .i64 L] w1.heap.size (numTo O S.length S.length) L S.length (4 * S.length) bD bS bM (fillTo S.length (fun i => nth S (ordN O i)) (c + 1)) (fillTo (4 * S.length) (rnAt M O S.length) (4 * c + s)))
                  case atStart => exact ⟨0, Nat.zero_le _, rfl, rfl, Hst.out⟩
                  case round =>
                    clear Hst
                    obtain ⟨s, hs4, rfl, rfl, hB⟩ := hrel
                    have HBz := Lib.hid hB
                    clear hB
                    by_cases hsl : s < 4
                    · obtain ⟨bm, om, hab, _, hcM⟩ := (HM.out.later HBz.out.A.below).open (by omega)
                      subst hab
                      obtain ⟨hm1, hm2⟩ := Hmt.out (4 * x + s) (by omega)
                      have hcm := hcM (4 * x + s) (by omega)
                      rw [hm1] at hcm
                      obtain ⟨m, hm⟩ : ∃ m, m = mt M (4 * x + s) := ⟨_, rfl⟩
                      rw [← hm] at hcm hm2
                      obtain ⟨hy1, hy2, _⟩ := num_back Hgd.out (c := m / 4) (by omega)
                      obtain ⟨y, hy⟩ : ∃ y, y = back (ordN O) S.length (m / 4) := ⟨_, rfl⟩
                      rw [← hy] at hy1 hy2
                      have hcN := HBz.out.A.N.int (m / 4) (by rw [numTo_len]; omega)
                      rw [hy1] at hcN
                      have hcD := HBz.out.D.cell 1
                      have hcB := HBz.out.A.box.cell 1
                      simp only [List.getElem?_cons_succ, List.getElem?_cons_zero] at hcD hcB
                      have hcX := HBz.out.M.int (4 * c + s) (by rw [fillTo_len]; omega)
                      have hfX := HBz.out.M.frozen (4 * c + s)
                      have Hrn : Hid (rnAt M O S.length (4 * c + s) = 4 * (y : Int) + (m : Int) % 4) := Lib.hid (by
                        unfold rnAt
                        rw [show (4 * c + s) / 4 = c from by omega, show (4 * c + s) % 4 = s from by omega, ← Hx.out, ← hm, hy1]
                        omega)
                      have Hst : Hid (RnB w ((wr.setCell ⟨bM, 4 * c + s, none⟩ (.int .i64 (4 * (y : Int) + (m : Int) % 4))).drew) [.slice (some ⟨bs, os, none⟩) S.length cS, .slice (some ⟨bm, om, none⟩) M.length cM, .int .i64 L] w1.heap.size (numTo O S.length S.length) L S.length (4 * S.length) bD bS bM (fillTo S.length (fun i => nth S (ordN O i)) (c + 1)) (fillTo (4 * S.length) (rnAt M O S.length) (4 * c + (s + 1)))) := Lib.hid (by
                        have := HBz.out.setM (4 * c + s) (4 * (y : Int) + (m : Int) % 4)
                        rw [← Hrn.out] at this
                        rw [← Hrn.out]
                        exact this)
                      generalize nth (fillTo (4 * S.length) (rnAt M O S.length) (4 * c + s)) (4 * c + s) = xw at *
                      clear hcM hm1 hm hy hy1 Hrn HBz
                      go_wp2_with fail
                      go_region
                      all_goals
                        go_wp2_with fail
                        go_roundg (4 - (s + 1))
                        case measure => omega
                        case rel => exact ⟨s + 1, by omega, rfl, by go_num, Hst.out⟩
                    · obtain rfl : s = 4 := by omega
                      go_wp2_with fail
                      go_roundg (S.length - (c + 1))
                      case measure => omega
                      case rel => exact ⟨c + 1, by omega, rfl, by go_num, HBz.out⟩
              · obtain rfl : c = S.length := by omega
                have HA := HBb.out.A
                have hcD0 := HBb.out.D.cell 0
                have hcD1 := HBb.out.D.cell 1
                have hcD2 := HBb.out.D.cell 2
                have hcR0 := HA.res.cell 0
                have hcR1 := HA.res.cell 1
                have hcR2 := HA.res.cell 2
                have hfR0 := HA.res.frozen 0
                have hfR1 := HA.res.frozen 1
                have hfR2 := HA.res.frozen 2
                simp only [List.getElem?_cons_succ, List.getElem?_cons_zero] at hcD0 hcD1 hcD2 hcR0 hcR1 hcR2
                have HAh := Lib.hid HA
                clear HA
                go_wp2_with fail
                obtain ⟨Wf, hWf⟩ : ∃ Wf, Wf = ((wr.setCell ⟨w.heap.size + 1, 0, none⟩ (.slice (some ⟨bS, 0, none⟩) S.length S.length)).setCell ⟨w.heap.size + 1, 1, none⟩ (.slice (some ⟨bM, 0, none⟩) (4 * S.length) (4 * S.length))).setCell ⟨w.heap.size + 1, 2, none⟩ (.int .i64 L) := ⟨_, rfl⟩
                rw [← hWf]
                have hRf : Row Wf (w.heap.size + 1) 24 [.slice (some ⟨bS, 0, none⟩) S.length S.length, .slice (some ⟨bM, 0, none⟩) (4 * S.length) (4 * S.length), .int .i64 L] := by
                  rw [hWf]; exact res_set HAh.out.res _ _ _
                have Hfin : Hid (Row Wf bS 3 (ints (rnS S O S.length)) ∧ Row Wf bM 3 (ints (rnM M O S.length)) ∧ Below w.heap.size w Wf) := Lib.hid (by
                  obtain ⟨⟨a1, a2, a3, a4, a5⟩, k1, k2, k3, k4, k5⟩ := HBb.out
                  rw [hWf, rnS, rnM, ← fillTo_all, ← fillTo_all]
                  exact ⟨((k2.setOther _ _ (by simp; omega)).setOther _ _ (by simp; omega)).setOther _ _ (by simp; omega), ((k3.setOther _ _ (by simp; omega)).setOther _ _ (by simp; omega)).setOther _ _ (by simp; omega), ((a4.setCell (by simp) _).setCell (by simp) _).setCell (by simp) _⟩)
                have Hll : Hid ((rnS S O S.length).length = S.length ∧ (rnM M O S.length).length = 4 * S.length) := Lib.hid ⟨fillL_len _ _, fillL_len _ _⟩
                have hF0 := hRf.cell 0
                have hF1 := hRf.cell 1
                have hF2 := hRf.cell 2
                simp only [List.getElem?_cons_succ, List.getElem?_cons_zero] at hF0 hF1 hF2
                clear hWf hRf hcD0 hcD1 hcD2 hcR0 hcR1 hcR2 hfR0 hfR1 hfR2
                refine bodyPost_ret (v := .tuple #[.agg #[.slice (some ⟨bS, 0, none⟩) S.length S.length, .slice (some ⟨bM, 0, none⟩) (4 * S.length) (4 * S.length), .int .i64 L], .int .i64 0]) (by simp [results, Tryd.results21, go_sem, hF0, hF1, hF2]) rfl ?_
                exact .inr ⟨⟨HOn.out, Hgd.out⟩, some ⟨bS, 0, none⟩, some ⟨bM, 0, none⟩, S.length, 4 * S.length, by rw [Hll.out.1, Hll.out.2], by have := Hfin.out.1.own (B := w.heap.size) (by have := HBb.out.lo; omega); rwa [ints_length, Hll.out.1] at this, by have := Hfin.out.2.1.own (B := w.heap.size) (by have := HBb.out.lo; omega); rwa [ints_length, Hll.out.2] at this, Hfin.out.2.2⟩
end Go.Proofs.YtmhhjchnjaefhaaDoor

