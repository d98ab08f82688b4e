/- Plain: diagrams of one code are renumberings of one another. Plain: the orders of some crossings, one after the other, until one is refused. law05's beside: two diagrams beside each other; diagram.Valid whatever the number of mates. Appends at a step of a region that draws its order. The reference's In and Factor. The law's orders: every order of some crossings is handed to a closure, as long as it answers true. The closures of the laws CanonComplete and CanonSymmetries. -/
import Derived.WalkKit
import Derived.WalkSpells
import Derived.WalkLawsBesides
import Derived.Deep.AppendSrc
import Derived.Deep.LoopGhost
import Derived.Deep.QuietTactic
import Derived.Deep.RegionWith
import Derived.Deep.DeepMust
import Derived.Deep.DeepFit
import Derived.BigQuiet
import Derived.Lib.Hide
import Derived.Outline
import Derived.Test.YtmhhjchnjaefhaaDoorProg
import Derived.Deep.Matrix
import Derived.Deep.DeepCutAuto
import Derived.Deep.RegionLaw
import Derived.Deep.RegionHeld3
import Derived.Lib.SliceRun
import Derived.Shelf.Strings.Builder1
import Derived.Shelf.Small.Wraps
import Derived.Shelf.Strings.BuilderF
import Derived.Shelf.Strings.BuilderK
import Derived.Shelf.Strconv.Itoa0
import Derived.Shelf.Strconv.Itoa1
import Derived.Shelf.LaysM
import Derived.Shelf.Strconv.Itoa2
import Derived.Shelf.Strconv.Itoa3
import Derived.Shelf.Slices.Equal
import Derived.Ground.Names2Prog
import Derived.Shelf.Slices.Clone
import Derived.Shelf.Slices.SearchI
import Derived.Shelf.Slices.Empties2
import Derived.Ground.SlgnProg
import Derived.Shelf.SlicesE.Clone
import Derived.Sort.OwnSortedInts
import Derived.Shelf.Small.Bits
import Derived.Shelf.Sort.Plain
import Derived.Shelf.Slices.Turned
import Derived.Shelf.Slices.CompactI
import Derived.Shelf.Slices.Cells
import Derived.Shelf.Slices.In.SortNone
import Derived.Lib.AppendZeros
import Derived.Deep.RegionHeld
import Derived.Lib.Builder
import Derived.Lib.AppendStr
import Derived.Lib.Walk
import Derived.Laws.Externs
import Derived.Lib.AppendIntMem
import Derived.Test.YtmhhjchnjaefhaaDoorWAa
import Derived.Test.YtmhhjchnjaefhaaDoorWAb
import Derived.Test.YtmhhjchnjaefhaaDoorWAc
import Derived.Test.YtmhhjchnjaefhaaDoorWAd
import Derived.Test.YtmhhjchnjaefhaaDoorWAe
import Derived.Test.YtmhhjchnjaefhaaDoorWAf
import Derived.Test.YtmhhjchnjaefhaaDoorWAg
import Derived.Test.YtmhhjchnjaefhaaDoorWAh
import Derived.Test.YtmhhjchnjaefhaaDoorWAi
import Derived.Test.YtmhhjchnjaefhaaDoorWAj
import Derived.Test.YtmhhjchnjaefhaaDoorWAk
import Derived.Test.YtmhhjchnjaefhaaDoorWAl
import Derived.Test.YtmhhjchnjaefhaaDoorWAm
import Derived.Test.YtmhhjchnjaefhaaDoorWAn
import Derived.Test.YtmhhjchnjaefhaaDoorWAo
import Derived.Test.YtmhhjchnjaefhaaDoorWAp
namespace Go.Proofs.YtmhhjchnjaefhaaDoor
open Go Go.RowKit
/-- One order behind another one. -/
def cmpO (o p : List Nat) : List Nat := p.map fun i => o.getD i 0
/-- The order backwards. -/
def invO (o : List Nat) (n : Nat) : List Nat := (List.range n).map fun i => o.idxOf i
section
variable {n : Nat} {o : List Nat} (ho : o.Perm (List.range n))
include ho
theorem perm_len : o.length = n := by have := ho.length_eq; rwa [List.length_range] at this
theorem perm_nd : o.Nodup := ho.nodup_iff.2 List.nodup_range
theorem perm_get {i : Nat} (hi : i < n) : o.getD i 0 < n := List.mem_range.1 (ho.mem_iff.1 (getD_mem (by rw [perm_len ho]; exact hi)))
theorem perm_inj (c d : Nat) (hc : c < n) (hd : d < n) (h : o.getD c 0 = o.getD d 0) : c = d := by
  have hl := perm_len ho
  rw [List.getD_eq_getElem?_getD, List.getD_eq_getElem?_getD, List.getElem?_eq_getElem (by omega), List.getElem?_eq_getElem (by omega)] at h
  exact (List.getElem_inj (perm_nd ho)).1 h
theorem perm_idx {c : Nat} (hc : c < n) : o.idxOf c < n ∧ o.getD (o.idxOf c) 0 = c := by
  have hin : c ∈ o := ho.mem_iff.2 (List.mem_range.2 hc)
  have hl : o.idxOf c < o.length := List.idxOf_lt_length_iff.2 hin
  refine ⟨by rw [← perm_len ho]; exact hl, ?_⟩
  rw [List.getD_eq_getElem?_getD, List.getElem?_eq_getElem hl]
  exact List.getElem_idxOf _
theorem cmp_perm {p : List Nat} (hp : p.Perm (List.range n)) : (cmpO o p).Perm (List.range n) := by
  refine nodup_perm_range ?_ (fun c hc => ?_) ?_
  · unfold cmpO
    rw [List.nodup_iff_pairwise_ne, List.pairwise_map]
    exact List.Pairwise.imp_of_mem (fun {a b} ha hb hne e => hne (perm_inj ho a b (List.mem_range.1 (hp.mem_iff.1 ha)) (List.mem_range.1 (hp.mem_iff.1 hb)) e)) (perm_nd hp)
  · obtain ⟨i, hi, rfl⟩ := List.mem_map.1 hc
    exact perm_get ho (List.mem_range.1 (hp.mem_iff.1 hi))
  · unfold cmpO; rw [List.length_map, perm_len hp]
theorem inv_perm : (invO o n).Perm (List.range n) := by
  refine nodup_perm_range ?_ (fun c hc => ?_) (by simp [invO])
  · unfold invO
    rw [List.nodup_iff_pairwise_ne, List.pairwise_map]
    refine List.Pairwise.imp_of_mem (fun {a b} ha hb hne e => hne ?_) List.nodup_range
    have h1 := (perm_idx ho (List.mem_range.1 ha)).2
    have h2 := (perm_idx ho (List.mem_range.1 hb)).2
    rw [← h1, ← h2, e]
  · obtain ⟨i, hi, rfl⟩ := List.mem_map.1 hc
    exact (perm_idx ho (List.mem_range.1 hi)).1
theorem cmp_inv : cmpO o (invO o n) = List.range n := by
  unfold cmpO invO
  rw [List.map_map]
  conv => rhs; rw [← List.map_id (List.range n)]
  refine List.map_congr_left fun i hi => ?_
  exact (perm_idx ho (List.mem_range.1 hi)).2
theorem partS_comp (S : List Int) {p : List Nat} (hp : p.Perm (List.range n)) : partS (partS S o) p = partS S (cmpO o p) := by
  have hl := perm_len ho
  unfold cmpO
  conv => lhs; unfold partS
  conv => rhs; unfold partS
  rw [List.map_map]
  refine List.map_congr_left fun i hi => ?_
  exact partS_nth (by rw [hl]; exact List.mem_range.1 (hp.mem_iff.1 hi))
theorem partM_comp {M : List Int} (hm : MateOk M n) {p : List Nat} (hp : p.Perm (List.range n)) : partM (partM M o) p = partM M (cmpO o p) := by
  have hl := perm_len ho
  have hlp := perm_len hp
  have hlc : (cmpO o p).length = n := by unfold cmpO; rw [List.length_map, hlp]
  refine ext_nth (by rw [partM_len, partM_len, hlp, hlc]) fun k hk => ?_
  rw [partM_len, hlp] at hk
  rw [partM_nth (by omega), partM_nth (by omega)]
  have hpk := perm_get hp (i := k / 4) (by omega)
  have ec : (cmpO o p).getD (k / 4) 0 = o.getD (p.getD (k / 4) 0) 0 := by unfold cmpO; exact getD_map _ (by omega)
  rw [ec]
  generalize p.getD (k / 4) 0 = q at *
  have hoq := perm_get ho hpk
  unfold partV
  have hx : 4 * q + k % 4 < 4 * o.length := by omega
  have e1 : mt (partM M o) (4 * q + k % 4) = 4 * idxI o (mt M (4 * o.getD q 0 + k % 4) / 4) + mt M (4 * o.getD q 0 + k % 4) % 4 := by
    have : mt (partM M o) (4 * q + k % 4) = (nth (partM M o) (4 * q + k % 4)).toNat := rfl
    rw [this, partM_nth hx]
    unfold partV
    rw [show (4 * q + k % 4) / 4 = q by omega, show (4 * q + k % 4) % 4 = k % 4 by omega]
    omega
  have hlt : mt M (4 * o.getD q 0 + k % 4) / 4 < n := by
    have := hm.lt (4 * o.getD q 0 + k % 4) (by omega)
    unfold mt; omega
  rw [e1]
  generalize mt M (4 * o.getD q 0 + k % 4) = m at *
  have hi := perm_idx ho hlt
  rw [show (4 * idxI o (m / 4) + m % 4) / 4 = idxI o (m / 4) by omega, show (4 * idxI o (m / 4) + m % 4) % 4 = m % 4 by omega]
  have e2 : idxI (cmpO o p) (m / 4) = idxI p (idxI o (m / 4)) := by
    unfold idxI cmpO
    have := idx_map (e := fun i => o.getD i 0) (perm_inj ho) hi.1 p (fun c hc => List.mem_range.1 (hp.mem_iff.1 hc))
    show (p.map fun i => o.getD i 0).idxOf (m / 4) = p.idxOf (o.idxOf (m / 4))
    rw [← this]
    congr 1
    exact hi.2.symm
  rw [e2]
end
theorem partS_id (S : List Int) : partS S (List.range S.length) = S := by
  unfold partS
  refine ext_nth (by simp) fun i hi => ?_
  rw [List.length_map, List.length_range] at hi
  exact nth_row _ _ _ hi
theorem partM_id {M : List Int} {n : Nat} (hm : MateOk M n) (hl : M.length = 4 * n) : partM M (List.range n) = M := by
  refine ext_nth (by rw [partM_len, List.length_range, hl]) fun k hk => ?_
  rw [partM_len, List.length_range] at hk
  rw [partM_nth (by rw [List.length_range]; exact hk)]
  have e : (List.range n).getD (k / 4) 0 = k / 4 := by
    rw [List.getD_eq_getElem?_getD, List.getElem?_range (by omega)]; rfl
  rw [e]
  unfold partV
  rw [show 4 * (k / 4) + k % 4 = k by omega]
  have hlt := hm.lt k hk
  have hc : mt M k / 4 < n := by unfold mt; omega
  have ei : idxI (List.range n) (mt M k / 4) = mt M k / 4 := by
    unfold idxI
    have := List.nodup_range.idxOf_getElem (mt M k / 4) (show mt M k / 4 < (List.range n).length by rw [List.length_range]; exact hc)
    rwa [List.getElem_range] at this
  rw [ei]
  unfold mt at *
  omega
end Go.Proofs.YtmhhjchnjaefhaaDoor

namespace Go.Proofs.YtmhhjchnjaefhaaDoor
open Go Go.RowKit
/-- The orders that extend l by k crossings. -/
def exts (n : Nat) : Nat → List Nat → List (List Nat)
  | 0, l => [l]
  | k + 1, l => (List.range n).flatMap fun c => if c ∈ l then [] else exts n k (l ++ [c])
section
variable {σ : Type} (n : Nat) (f : σ → List Nat → σ × Bool)
/-- What a run over some orders leaves, and whether it went through. -/
def runL : σ → List (List Nat) → σ × Bool
  | s, [] => (s, true)
  | s, o :: os => if (f s o).2 = true then runL (f s o).1 os else f s o
theorem runL_append : ∀ (a b : List (List Nat)) (s : σ), runL f s (a ++ b) = if (runL f s a).2 = true then runL f (runL f s a).1 b else runL f s a
  | [], b, s => by rw [List.nil_append, runL, if_pos rfl]
  | o :: a, b, s => by
    rw [List.cons_append, runL, runL]
    by_cases h : (f s o).2 = true
    · rw [if_pos h, if_pos h]; exact runL_append a b _
    · rw [if_neg h, if_neg h, if_neg h]
def runStep (g : List Nat → σ → σ × Bool) (l : List Nat) (p : σ × Bool) (c : Nat) : σ × Bool := if p.2 = true ∧ c ∉ l then g (l ++ [c]) p.1 else p
/-- The same, as the program runs. -/
def runX : Nat → List Nat → σ → σ × Bool
  | 0, l, s => f s l
  | k + 1, l, s => (List.range n).foldl (runStep (runX k) l) (s, true)
def runTo (k : Nat) (l : List Nat) (s : σ) (c : Nat) : σ × Bool := (List.range c).foldl (runStep (runX n f k) l) (s, true)
theorem runTo_succ (k : Nat) (l : List Nat) (s : σ) (c : Nat) : runTo n f k l s (c + 1) = runStep (runX n f k) l (runTo n f k l s c) c := by
  unfold runTo
  rw [List.range_succ, List.foldl_append]; rfl
theorem runTo_in {k : Nat} {l : List Nat} {s s' : σ} {c : Nat} (h : runTo n f k l s c = (s', true)) (hc : c ∈ l) : runTo n f k l s (c + 1) = (s', true) := by
  rw [runTo_succ, h, runStep, if_neg fun k => k.2 hc]
theorem runTo_out {k : Nat} {l : List Nat} {s s' : σ} {c : Nat} (h : runTo n f k l s c = (s', true)) (hc : c ∉ l) : runTo n f k l s (c + 1) = runX n f k (l ++ [c]) s' := by
  rw [runTo_succ, h, runStep, if_pos ⟨rfl, hc⟩]
theorem runTo_stop {k : Nat} {l : List Nat} {s s' : σ} {c : Nat} (h : runTo n f k l s c = (s', false)) : ∀ d, runTo n f k l s (c + d) = (s', false)
  | 0 => h
  | d + 1 => by
    rw [← Nat.add_assoc, runTo_succ, runTo_stop h d, runStep, if_neg fun k => by cases k.1]
theorem runX_ext : ∀ (k : Nat) (l : List Nat) (s : σ), runX n f k l s = runL f s (exts n k l)
  | 0, l, s => by
    rw [runX, exts, runL, runL]
    by_cases h : (f s l).2 = true
    · rw [if_pos h, ← h]
    · rw [if_neg h]
  | k + 1, l, s => by
    have key : ∀ c, runTo n f k l s c = runL f s ((List.range c).flatMap fun c => if c ∈ l then [] else exts n k (l ++ [c])) := fun c => by
      induction c with
      | zero => rfl
      | succ c ih =>
        rw [runTo_succ, List.range_succ, List.flatMap_append, runL_append, ← ih, List.flatMap_singleton, runStep]
        by_cases h : (runTo n f k l s c).2 = true
        · rw [if_pos h]
          by_cases hc : c ∈ l
          · rw [if_neg fun k => k.2 hc, if_pos hc, runL, ← h]
          · rw [if_pos ⟨h, hc⟩, if_neg hc, runX_ext k]
        · rw [if_neg h, if_neg fun k => h k.1]
    exact key n
end
theorem mem_exts {n : Nat} : ∀ (k : Nat) (l o : List Nat), o ∈ exts n k l ↔ ∃ d, o = l ++ d ∧ d.length = k ∧ d.Nodup ∧ (∀ c, c ∈ d → c < n ∧ c ∉ l)
  | 0, l, o => by
    rw [exts, List.mem_singleton]
    constructor
    · rintro rfl; exact ⟨[], by simp, rfl, List.nodup_nil, fun c h => by simp at h⟩
    · rintro ⟨d, rfl, h, _⟩
      rw [List.length_eq_zero_iff.1 h, List.append_nil]
  | k + 1, l, o => by
    rw [exts, List.mem_flatMap]
    constructor
    · rintro ⟨c, hc, ho⟩
      by_cases h : c ∈ l
      · rw [if_pos h] at ho; simp at ho
      · rw [if_neg h] at ho
        obtain ⟨d, rfl, h1, h2, h3⟩ := (mem_exts k _ _).1 ho
        refine ⟨c :: d, by simp, by rw [List.length_cons, h1], List.nodup_cons.2 ⟨fun hd => (h3 c hd).2 (by simp), h2⟩, fun x hx => ?_⟩
        rcases List.mem_cons.1 hx with rfl | hx
        · exact ⟨List.mem_range.1 hc, h⟩
        · exact ⟨(h3 x hx).1, fun g => (h3 x hx).2 (List.mem_append_left _ g)⟩
    · rintro ⟨d, rfl, h1, h2, h3⟩
      cases d with
      | nil => simp at h1
      | cons c d =>
        rw [List.nodup_cons] at h2
        have hc := h3 c List.mem_cons_self
        refine ⟨c, List.mem_range.2 hc.1, ?_⟩
        rw [if_neg hc.2]
        refine (mem_exts k _ _).2 ⟨d, by simp, by simpa using h1, h2.2, fun x hx => ⟨(h3 x (List.mem_cons_of_mem _ hx)).1, fun g => ?_⟩⟩
        rcases List.mem_append.1 g with g | g
        · exact (h3 x (List.mem_cons_of_mem _ hx)).2 g
        · rw [List.mem_singleton] at g; subst g; exact h2.1 hx
theorem exts_all {n : Nat} {o : List Nat} : o ∈ exts n n [] ↔ o.Perm (List.range n) := by
  rw [mem_exts]
  constructor
  · rintro ⟨d, e, h1, h2, h3⟩
    rw [List.nil_append] at e
    subst e
    exact nodup_perm_range h2 (fun c hc => (h3 c hc).1) h1
  · intro h
    exact ⟨o, rfl, perm_len h, perm_nd h, fun c hc => ⟨List.mem_range.1 (h.mem_iff.1 hc), by simp⟩⟩
theorem exts_nodup {n : Nat} : ∀ (k : Nat) (l : List Nat), (exts n k l).Nodup
  | 0, l => by rw [exts]; simp
  | k + 1, l => by
    rw [exts, List.nodup_iff_pairwise_ne, List.pairwise_flatMap]
    refine ⟨fun c _ => ?_, ?_⟩
    · by_cases h : c ∈ l
      · rw [if_pos h]; exact List.Pairwise.nil
      · rw [if_neg h]; exact List.nodup_iff_pairwise_ne.1 (exts_nodup k _)
    · refine List.Pairwise.imp ?_ (List.nodup_iff_pairwise_ne.1 (List.nodup_range (n := n)))
      intro c d hne x hx y hy e
      subst e
      by_cases h : c ∈ l
      · rw [if_pos h] at hx; simp at hx
      · by_cases h' : d ∈ l
        · rw [if_pos h'] at hy; simp at hy
        · rw [if_neg h] at hx
          rw [if_neg h'] at hy
          obtain ⟨d1, e1, _⟩ := (mem_exts k _ _).1 hx
          obtain ⟨d2, e2, _⟩ := (mem_exts k _ _).1 hy
          rw [e1, List.append_assoc, List.append_assoc, List.append_cancel_left_eq] at e2
          simp at e2
          exact hne e2.1
/-- How many orders do. -/
theorem runL_count (p : List Nat → Bool) : ∀ os (s : Int), 0 ≤ s → s + (os.length : Nat) ≤ 1000000 → runL (fun (s : Int) o => (if p o = true then wrap64 (s + 1) else s, true)) s os = (s + (os.countP p : Nat), true)
  | [], s, _, _ => by rw [runL]; simp
  | o :: os, s, h0, h1 => by
    rw [List.length_cons] at h1
    rw [runL, if_pos rfl]
    cases h : p o
    · rw [List.countP_cons_of_neg (by rw [h]; decide)]
      exact runL_count p os s h0 (by omega)
    · rw [List.countP_cons_of_pos h]
      show runL _ (wrap64 (s + 1)) os = _
      rw [wrap_mid (by omega) (by omega), runL_count p os (s + 1) (by omega) (by omega)]
      congr 1; omega
theorem exts_few {n : Nat} (hn : n ≤ 5) : ∀ (k : Nat) (l : List Nat), k ≤ 5 → (exts n k l).length ≤ 5 ^ k
  | 0, l, _ => by rw [exts]; simp
  | k + 1, l, hk => by
    have key : ∀ c, ((List.range c).flatMap fun c => if c ∈ l then [] else exts n k (l ++ [c])).length ≤ c * 5 ^ k := fun c => by
      induction c with
      | zero => simp
      | succ c ih =>
        rw [List.range_succ, List.flatMap_append, List.length_append, List.flatMap_singleton, Nat.add_mul, Nat.one_mul]
        have : (if c ∈ l then [] else exts n k (l ++ [c])).length ≤ 5 ^ k := by
          split
          · exact Nat.zero_le _
          · exact exts_few hn k _ (by omega)
        omega
    have h1 := key n
    have h2 := Nat.mul_le_mul hn (Nat.le_refl (5 ^ k))
    rw [exts, Nat.pow_succ, Nat.mul_comm]
    omega
end Go.Proofs.YtmhhjchnjaefhaaDoor

namespace Go.Proofs.YtmhhjchnjaefhaaDoor
open Go Go.RowKit
set_option maxRecDepth 100000 in
set_option maxHeartbeats 1000000 in
theorem valid_long (S M : List Int) (L : Int) (aS aM : Option Addr) (cS cM : Nat) (w : World) (hS20 : S.length ≤ 64) (hn : M.length ≠ 4 * S.length) :
    Calls Tryd.prog 18 #[.agg #[.slice aS S.length cS, .slice aM M.length cM, .int .i64 L]] w fun e w' => e = .returned (.bool false) ∧ Below w.heap.size w w' := by
  have t1 : decide ((64 : Int) < (S.length : Int)) = false := decide_eq_false (by omega)
  have t2 : decide (64 < S.length) = false := decide_eq_false (by omega)
  have w1 : IntKind.i64.wrap (4 * (S.length : Int)) = 4 * (S.length : Int) := wrapi_mid (by omega) (by omega)
  have t3 : ((M.length : Int) != 4 * (S.length : Int)) = true := by simp; omega
  have H0 := Lib.hid ((HH.start w).alloc #[.slice aS S.length cS, .slice aM M.length cM, .int .i64 L] 24 rfl rfl)
  clear hn
  generalize S.length = n at *
  generalize M.length = N at *
  go_enter Tryd.func18, Tryd.ntmps18
  have k00 := H0.out.cell (k := 0) (i := 0) rfl rfl
  have k01 := H0.out.cell (k := 0) (i := 1) rfl rfl
  have k02 := H0.out.cell (k := 0) (i := 2) rfl rfl
  go_wp2_with fail
  go_ret
  exact ⟨rfl, H0.out.below⟩
theorem valid_all (S M : List Int) (L : Int) (aS aM : Option Addr) (cS cM : Nat) (w : World) (hS20 : S.length ≤ 20) (hS : IntsAt w aS S) (hM : IntsAt w aM M) :
    Calls Tryd.prog 18 #[.agg #[.slice aS S.length cS, .slice aM M.length cM, .int .i64 L]] w fun e w' => e = .returned (.bool (vldB S M L)) ∧ Below w.heap.size w w' := by
  by_cases h : M.length = 4 * S.length
  · exact valid_any S M L aS aM cS cM w (by omega) (by omega) hS hM
  · rw [vldB_no fun hs => h hs.len]
    exact valid_long S M L aS aM cS cM w (by omega) h
end Go.Proofs.YtmhhjchnjaefhaaDoor

namespace Go.Proofs.YtmhhjchnjaefhaaDoor
open Go Go.RowKit
section
variable {w : World} {ops : Array Oper} {o : Oper} {a : Act}
theorem run_app (W : World) (B : Nat) (ty : TypeId) (A : Option Addr) (c : Nat) (xs : List Int) (hown : Own W B 3 A c (ints xs)) (ax : Option Addr) (cx : Nat) (ys : List Int) (hus : IntsAt W ax ys) (hl : xs.length + ys.length ≤ 1000000) (hB : B ≤ W.heap.size) :
    ∃ A' c' w', (Builtin.append_ #[22, 22] ty #[.slice A xs.length c, .slice ax ys.length cx]).run Tryd.prog W = .ok (.slice A' (xs.length + ys.length) c') w' ∧ Own w' B 3 A' c' (ints (xs ++ ys)) ∧ Turned W w' A ∧ (∀ x, A' = some x → (W.heap.size ≤ x.block ∨ ∃ y, A = some y ∧ x = y)) := by
  obtain ⟨i0, hi0, hz0, hz1, hz2⟩ := info_parts Tryd.info3
  obtain ⟨a', c', w', hrun, r0, r1, r2, r3⟩ := run_append_wide (P := Tryd.prog) W B 22 22 ty 3 i0 (.int .i64 0) 8 1 Tryd.underlying22 Tryd.underlying22 hi0 hz0 hz1 (by decide) hz2 rfl A xs.length c (ints xs) (by rw [ints_length, Nat.mul_one]) (by have := hown.size; rw [ints_length] at this; exact this) (by rw [Nat.mul_one]; exact hown) ax ys.length cx (ints ys) (by rw [ints_length, Nat.mul_one]) hus (fun u hu => by
    obtain ⟨x, _, rfl⟩ := List.mem_map.1 hu; rfl) (by omega) (by omega) hB
  refine ⟨a', c', w', hrun, ?_, r2, r3⟩
  rw [Nat.mul_one] at r1
  have e : ints xs ++ ints ys = ints (xs ++ ys) := by simp only [ints, List.map_append]
  rw [← e]; exact r1
end
end Go.Proofs.YtmhhjchnjaefhaaDoor

namespace Go.Proofs.YtmhhjchnjaefhaaDoor
open Go Go.RowKit
set_option maxRecDepth 100000 in
set_option maxHeartbeats 1000000 in
theorem in_nats (a : Option Addr) (cG : Nat) (G : List Nat) (x : Nat) (w : World) (h1 : G.length ≤ 1000000) (hG : IntsAt w a (nats G)) :
    Calls Tryd.prog 50 #[.slice a G.length cG, .int .i64 (x : Int)] w fun e w' => e = .returned (.bool (decide (x ∈ G))) ∧ w' = w := by
  have HG := Lib.hid hG
  have HX : Hid (∀ j, j < G.length → G.getD j 0 = x → decide (x ∈ G) = true) := Lib.hid fun j hj e => decide_eq_true (by
    rw [← e, List.getD_eq_getElem?_getD, List.getElem?_eq_getElem hj]; exact List.getElem_mem _)
  have HN : Hid ((∀ j, j < G.length → G.getD j 0 ≠ x) → decide (x ∈ G) = false) := Lib.hid fun h => decide_eq_false fun hm => by
    obtain ⟨j, hj, e⟩ := List.getElem_of_mem hm
    refine h j hj ?_
    rw [List.getD_eq_getElem?_getD, List.getElem?_eq_getElem hj, e]; rfl
  clear hG
  generalize decide (x ∈ G) = t at *
  go_enter Tryd.func50, Tryd.ntmps50
  go_wp2_with fail
  go_loopg [5] G.length (fun g v wr => ∃ j : Nat, j ≤ G.length ∧ g = G.length - j ∧ v = .int .i64 j ∧ Hid (∀ k, k < j → G.getD k 0 ≠ x) ∧ wr = w)
  case atStart => exact ⟨0, Nat.zero_le _, rfl, rfl, Lib.hid fun k hk => absurd hk (Nat.not_lt_zero _), rfl⟩
  case round =>
    obtain ⟨j, hj, rfl, rfl, Hk, hw⟩ := hrel
    subst hw
    by_cases hjl : j < G.length
    · obtain ⟨b, off, rfl, _, hc⟩ := HG.out.open (by rw [nats_length]; omega)
      have hcx := hc j (by rw [nats_length]; exact hjl)
      rw [nth_nats _ _ hjl] at hcx
      clear hc
      by_cases e : G.getD j 0 = x
      · have ht := HX.out j hjl e
        subst ht
        rw [e] at hcx
        clear e
        go_wp2_with fail
        go_ret
        exact ⟨rfl, rfl⟩
      · have t1 : (((G.getD j 0 : Nat) : Int) == (x : Int)) = false := by rw [beq_eq_false_iff_ne]; omega
        have Hk2 : Hid (∀ k, k < j + 1 → G.getD k 0 ≠ x) := Lib.hid fun k hk => by
          by_cases g : k = j
          · rw [g]; exact e
          · exact Hk.out k (by omega)
        generalize G.getD j 0 = v at *
        clear e
        go_wp2_with fail
        go_roundg (G.length - (j + 1))
        case measure => omega
        case rel => exact ⟨j + 1, by omega, rfl, by go_num, Lib.hid Hk2.out, rfl⟩
    · obtain rfl : j = G.length := by omega
      have ht := HN.out Hk.out
      subst ht
      go_wp2_with fail
      go_ret
      exact ⟨rfl, rfl⟩
end Go.Proofs.YtmhhjchnjaefhaaDoor


namespace Go.Proofs.YtmhhjchnjaefhaaDoor
open Go Go.RowKit
theorem Kp.join {b : Nat} {w w1 w2 : World} (h : Kp w.heap.size b w w1) (k : Kp w1.heap.size b w1 w2) : Kp w.heap.size b w w2 :=
  h.trans ⟨k.os, k.tape, k.output, k.size, fun i hi hb => k.block i (by have := h.size; omega) hb⟩
theorem Kp.of {b : Nat} {w w1 : World} (h : Below w.heap.size w w1) : Kp w.heap.size b w w1 := (Kp.refl _ _ _).below h (Nat.le_refl _)
theorem IntsAt.kp {w w' : World} {a : Option Addr} {xs : List Int} {b : Nat} (h : IntsAt w a xs) (hb : ∀ x, a = some x → x.block ≠ b) (k : Kp w.heap.size b w w') : IntsAt w' a xs := fun i v hv => by
  obtain ⟨c, off, e, hc⟩ := h i v hv
  refine ⟨c, off, e, ?_⟩
  have hl := World.block_lt_of_cell? _ _ hc
  rw [World.cell?_of_block (w := w) (w' := w') (a := ⟨c, off + i, none⟩) (k.block c hl (hb _ e))]
  exact hc
section
variable {ops : Array Oper} {Q : Exit → Act → World → Prop} {o : Oper} {rest : List Oper} {a : Act} {w : World}
/-- An append of numbers at an operation that is wanted. -/
theorem wpList_appW (hw : Region.wanted o (yielded ops a.tmps) = true) (s x : Operand) (hop : o.op = .call { callee := .builtin .append, args := #[s, x], argTypes := #[22, 22] })
    (B : Nat) (A : Option Addr) (n c : Nat) (xs : List Int) (hs : a.eval s = .slice A n c) (hn : xs.length = n) (hown : Own w B 3 A c (ints xs)) (ax : Option Addr) (m cx : Nat) (ys : List Int) (hx : a.eval x = .slice ax m cx) (hm : ys.length = m) (hus : IntsAt w ax ys) (hl : n + m ≤ 1000000) (hB : B ≤ w.heap.size) (r : Nat) (hr : n + m = r)
    (hK : ∀ A' c' w', Own w' B 3 A' c' (ints (xs ++ ys)) → Turned w w' A → (∀ x, A' = some x → (w.heap.size ≤ x.block ∨ ∃ y, A = some y ∧ x = y)) → wpList Tryd.prog ops Q rest (a.put o.dst (.slice A' r c')) w') :
    wpList Tryd.prog ops Q (o :: rest) a w := by
  subst hn; subst hm; subst hr
  obtain ⟨A', c', w', hrun, r1, r2, r3⟩ := run_app w B o.type A c xs hown ax cx ys hus hl hB
  refine wpList_step fun K hK' => ?_
  rw [if_pos hw]
  unfold Oper.wp
  simp [execOp, hop, resolve, invoke, builtin, hs, hx, hrun, Result.andThen]
  exact hK' _ _ (hK A' c' w' r1 r2 r3)
end
abbrev fnS (qa b : Nat) : Value := .func (.func 20) #[] #[.pointer (some ⟨qa, 0, none⟩), .pointer (some ⟨b, 0, none⟩)]
/-- What the closure does with an order. -/
def VisS (w0 : World) (n : Nat) (KN : Int → Kn) (qa b : Nat) (f : Int → List Nat → Int × Bool) : Prop :=
  ∀ (s : Int) (l : List Nat) (a : Option Addr) (c : Nat) (w : World), l.Perm (List.range n) → HH w0 w (KN s) [] → IntsAt w a (nats l) →
    Calls Tryd.prog 20 #[.slice a l.length c, .pointer (some ⟨qa, 0, none⟩), .pointer (some ⟨b, 0, none⟩)] w fun e w' => e = .returned (.bool (f s l).2) ∧ HH w0 w' (KN (f s l).1) [] ∧ Kp w.heap.size b w w'
def OrdsS (w0 : World) (n : Nat) (KN : Int → Kn) (qa b : Nat) (f : Int → List Nat → Int × Bool) (k : Nat) : Prop :=
  ∀ (s : Int) (l : List Nat) (a : Option Addr) (c : Nat) (w : World), HH w0 w (KN s) [] → l.Nodup → (∀ x, x ∈ l → x < n) → l.length + k = n → IntsAt w a (nats l) → (∀ x, a = some x → x.block ≠ b) →
    Calls Tryd.prog 19 #[.int .i64 (n : Int), .slice a l.length c, fnS qa b] w fun e w' => e = .returned (.bool (runX n f k l s).2) ∧ HH w0 w' (KN (runX n f k l s).1) [] ∧ Kp w.heap.size b w w'
set_option maxRecDepth 100000 in
set_option maxHeartbeats 4000000 in
theorem ordsS_any (w0 : World) (n : Nat) (KN : Int → Kn) (qa b : Nat) (f : Int → List Nat → Int × Bool) (hn : n ≤ 5) (hb : ∀ s, ∃ R, (b, R) ∈ KN s) (HV : VisS w0 n KN qa b f) : ∀ k, OrdsS w0 n KN qa b f k := by
  intro k
  induction k with
  | zero =>
    intro s l a c w hh hnd hlt hl hI _
    have HV1 := Lib.hid (HV s l a c w (nodup_perm_range hnd hlt (by omega)) hh hI)
    have t1 : ((l.length : Int) == (n : Int)) = true := by rw [show l.length = n by omega]; exact beq_self_eq_true _
    have t2 : (l.length == n) = true := by rw [show l.length = n by omega]; exact beq_self_eq_true _
    have HX : Hid (runX n f 0 l s = f s l) := Lib.hid rfl
    rw [HX.out]
    clear HV hb hh hnd hlt hl hI HX
    generalize l.length = q at *
    go_enter Tryd.func19, Tryd.ntmps19
    go_wp2_with fail
    refine HV1.out.mono ?_
    rintro e w1 ⟨rfl, h1, h2⟩
    have H1 := Lib.hid (And.intro h1 h2)
    clear h1 h2
    go_wp2_with fail
    go_ret
    exact ⟨rfl, H1.out⟩
  | succ k ih =>
    intro s l a c w hh hnd hlt hl hI hab
    have t1 : ((l.length : Int) == (n : Int)) = false := by rw [beq_eq_false_iff_ne]; omega
    have t2 : (l.length == n) = false := by rw [beq_eq_false_iff_ne]; omega
    have Ih := Lib.hid ih
    have HAB := Lib.hid hab
    have HI := Lib.hid hI
    have Hnd := Lib.hid (And.intro hnd hlt)
    have Hlk := Lib.hid hl
    have HB := Lib.hid hb
    have H0 := Lib.hid hh
    have HX : Hid (runX n f (k + 1) l s = runTo n f k l s n) := Lib.hid rfl
    rw [HX.out]
    have hq5 : l.length ≤ 5 := by omega
    have HLn := Lib.hid (rfl : l.length = l.length)
    clear HV hb hh hnd hlt hl hI ih hab HX
    obtain ⟨q, hq⟩ : ∃ q, q = l.length := ⟨_, rfl⟩
    have Hq := Lib.hid hq
    rw [← hq] at t1 t2 hq5 ⊢
    clear hq HLn
    go_enter Tryd.func19, Tryd.ntmps19
    go_wp2_with fail
    go_loopg [16] n (fun g v wr => ∃ (i : Nat) (s' : Int), i ≤ n ∧ g = n - i ∧ v = .int .i64 (i : Int) ∧ Hid (runTo n f k l s i = (s', true)) ∧ Hid (HH w0 wr (KN s') []) ∧ Hid (Kp w.heap.size b w wr))
    case atStart => exact ⟨0, s, Nat.zero_le _, rfl, rfl, Lib.hid rfl, Lib.hid H0.out, Lib.hid (Kp.refl _ _ _)⟩
    case round =>
      obtain ⟨i, s', hi, rfl, rfl, Hrn, Hh, Hk⟩ := hrel
      clear H0
      by_cases hil : i < n
      · have HIr := Lib.hid (HI.out.kp HAB.out Hk.out)
        have Hin := Lib.hid (in_nats a c l i wr (by have := Hq.out; omega) HIr.out)
        rw [← Hq.out] at Hin
        by_cases hin : i ∈ l
        · have Hr2 := Lib.hid (runTo_in n f Hrn.out hin)
          rw [decide_eq_true hin] at Hin
          clear hin HIr
          go_wp2_with fail
          refine Hin.out.mono ?_
          rintro e w1 ⟨rfl, hw1⟩
          subst hw1
          go_wp2_with fail
          go_roundg (n - (i + 1))
          case measure => omega
          case rel => exact ⟨i + 1, s', by omega, rfl, by go_num, Lib.hid Hr2.out, Lib.hid Hh.out, Lib.hid Hk.out⟩
        · obtain ⟨s2, b2, hr⟩ : ∃ s2 b2, runX n f k (l ++ [i]) s' = (s2, b2) := ⟨_, _, rfl⟩
          have Hr2 := Lib.hid ((runTo_out n f Hrn.out hin).trans hr)
          have hbw : b < wr.heap.size := by
            obtain ⟨R, hR⟩ := HB.out s'
            exact Hh.out.lt hR
          have HR : Hid (∀ (a : Option Addr) (c : Nat) (w' : World), Below wr.heap.size wr w' → IntsAt w' a (nats (l ++ [i])) → (∀ x, a = some x → wr.heap.size ≤ x.block) → Calls Tryd.prog 19 #[.int .i64 (n : Int), .slice a (q + 1) c, fnS qa b] w' fun e w'' => e = .returned (.bool b2) ∧ Hid (HH w0 w'' (KN s2) []) ∧ Hid (Kp w.heap.size b w w'')) := Lib.hid fun a c w' h1 h2 h3 => by
            have hlk := Hlk.out
            have g := Ih.out s' (l ++ [i]) a c w' (Hh.out.call h1) (List.nodup_append.2 ⟨Hnd.out.1, by simp, fun x hx y hy e => by
              rw [List.mem_singleton] at hy; subst hy; subst e; exact hin hx⟩) (fun x hx => by
              rcases List.mem_append.1 hx with g | g
              · exact Hnd.out.2 x g
              · rw [List.mem_singleton] at g; subst g; exact hil) (by rw [List.length_append, List.length_singleton]; omega) h2 (fun x hx => by have := h3 x hx; omega)
            rw [hr, List.length_append, List.length_singleton, ← Hq.out] at g
            refine g.mono ?_
            rintro e w'' ⟨e1, e2, e3⟩
            exact ⟨e1, Lib.hid e2, Lib.hid ((Hk.out.below h1 Hk.out.size).join e3)⟩
          rw [decide_eq_false hin] at Hin
          clear hin hr hbw
          have J0 : Hid (HH wr (wr.alloc (.cells #[] 3)) [] [⟨some ⟨wr.heap.size, 0, none⟩, 0, 3, ints []⟩]) := Lib.hid ((HH.start wr).addSl ((Below.refl _ _).alloc (Nat.le_refl _) _) (Own.made #[] (Nat.le_refl _)))
          have HI0 := Lib.hid (HIr.out.later J0.out.below)
          have Hnl : Hid ((nats l).length = q) := Lib.hid (by rw [nats_length]; exact Hq.out.symm)
          have Hz1 := Lib.hid J0.out.below.size
          go_wp2_with fail
          refine Hin.out.mono ?_
          rintro e w1 ⟨rfl, hw1⟩
          subst hw1
          go_wp2_with (first
            | ((with_reducible refine wpList_appW ?_ (.tmp 25) (.tmp 26) rfl w1.heap.size (some ⟨w1.heap.size, 0, none⟩) 0 0 [] rfl rfl (J0.out.sl (k := 0) rfl) a q c (nats l) rfl Hnl.out HI0.out (by omega) Hz1.out q (Nat.zero_add _) ?_)
               · rfl
               intro A7 c7 w7 hO7 hT7 hA7
               have H7 := Lib.hid (J0.out.grow (k := 0) rfl hO7 hT7 hA7)
               clear hO7 hT7 hA7
               have H8 := Lib.hid (H7.out.call ((Below.refl _ _).alloc (Nat.le_refl _) (.cells #[.int .i64 (i : Int)] 3)))
               have HC8 : Hid (IntsAt (w7.alloc (.cells #[.int .i64 (i : Int)] 3)) (some ⟨w7.heap.size, 0, none⟩) [(i : Int)]) := Lib.hid ((Row.new w7 #[.int .i64 (i : Int)] 3).own (B := 0) (Nat.zero_le _)).ints
               have Hz2 := Lib.hid H8.out.below.size)
            | ((with_reducible refine wpList_appW ?_ (.tmp 27) (.tmp 29) rfl w1.heap.size A7 q c7 ([] ++ nats l) rfl Hnl.out (H8.out.sl (k := 0) rfl) (some ⟨w7.heap.size, 0, none⟩) 1 1 [(i : Int)] rfl rfl HC8.out (by omega) Hz2.out (q + 1) rfl ?_)
               · rfl
               intro A9 c9 w9 hO9 hT9 hA9
               have H9 := Lib.hid (H8.out.grow (k := 0) rfl hO9 hT9 hA9)
               clear hO9 hT9 hA9))
          have N9 : Hid (IntsAt w9 A9 (nats (l ++ [i])) ∧ (∀ x, A9 = some x → w1.heap.size ≤ x.block) ∧ Below w1.heap.size w1 w9) := Lib.hid ⟨by
            have := (H9.out.sl (k := 0) rfl).ints
            rw [List.nil_append, nats_snoc] at this
            exact this, fun x hx => ((H9.out.sl (k := 0) rfl).lt hx).1, H9.out.below⟩
          refine (HR.out A9 c9 w9 N9.out.2.2 N9.out.1 N9.out.2.1).mono ?_
          rintro e w10 ⟨rfl, Hh2, Hk2⟩
          clear H9 N9 H8 HC8 Hz2 H7 J0 HI0 Hz1 Hin HIr
          cases b2
          · have HE := Lib.hid (runTo_stop n f Hr2.out (n - (i + 1)))
            have HE2 : Hid (runTo n f k l s n = (s2, false)) := Lib.hid (by
              have := HE.out
              rwa [show i + 1 + (n - (i + 1)) = n by omega] at this)
            clear HE
            go_wp2_with fail
            go_ret
            rw [HE2.out]
            exact ⟨rfl, Hh2.out, Hk2.out⟩
          · go_wp2_with fail
            go_roundg (n - (i + 1))
            case measure => omega
            case rel => exact ⟨i + 1, s2, by omega, rfl, by go_num, Lib.hid Hr2.out, Lib.hid Hh2.out, Lib.hid Hk2.out⟩
      · obtain rfl : i = n := by omega
        go_wp2_with fail
        go_ret
        rw [Hrn.out]
        exact ⟨rfl, Hh.out, Hk.out⟩
end Go.Proofs.YtmhhjchnjaefhaaDoor

namespace Go.Proofs.YtmhhjchnjaefhaaDoor
open Go Go.RowKit
set_option maxRecDepth 100000 in
set_option maxHeartbeats 2000000 in
theorem visS_any (S M : List Int) (L : Int) (aS aM : Option Addr) (cS cM : Nat) (qa b : Nat) (w0 : World) (hv : vldB S M L = true) (hS : IntsAt w0 aS S) (hM : IntsAt w0 aM M) :
    VisS w0 S.length (fun s : Int => [(qa, rowO 24 [.slice aS S.length cS, .slice aM M.length cM, .int .i64 L]), (b, rowO 3 [.int .i64 s])]) qa b (fun (s : Int) o => (if eqD (partS S o) (partM M o) L S M L = true then wrap64 (s + 1) else s, true)) := by
  intro s l a c w hl hh hI
  have hs := vldB_shape hv
  have hfw := hs.few
  have hMl := hs.len
  have hll := perm_len hl
  have H0 := Lib.hid hh
  have HR : Hid (Calls Tryd.prog 21 #[.agg #[.slice aS S.length cS, .slice aM M.length cM, .int .i64 L], .slice a l.length c] w fun e w' => ∃ a b c d, e = .returned (.tuple #[.agg #[.slice a S.length c, .slice b M.length d, .int .i64 L], .int .i64 0]) ∧ IntsAt w' a (partS S l) ∧ IntsAt w' b (partM M l) ∧ Below w.heap.size w w') := Lib.hid (by
    have g := renum_yes S M L aS aM cS cM a c l w hv hl (hS.later hh.below) (hM.later hh.below) hI
    rw [nats_length] at g
    exact g.mono fun e w' ⟨a, b, c, d, e1, e2, e3, e4⟩ => ⟨a, b, c, d, e1, e2.ints, e3.ints, e4⟩)
  have HE : Hid (∀ (a b : Option Addr) (c d : Nat) W', Below w0.heap.size w0 W' → IntsAt W' a (partS S l) → IntsAt W' b (partM M l) → Calls Tryd.prog 22 #[.agg #[.slice a S.length c, .slice b M.length d, .int .i64 L], .agg #[.slice aS S.length cS, .slice aM M.length cM, .int .i64 L]] W' fun e w' => e = .returned (.bool (eqD (partS S l) (partM M l) L S M L)) ∧ Below W'.heap.size W' w') := Lib.hid fun a b c d W' h h1 h2 => by
    have l1 : (partS S l).length = S.length := by rw [partS_len, hll]
    have l2 : (partM M l).length = M.length := by rw [partM_len, hll, hMl]
    have g := equalD_any (partS S l) (partM M l) S M L L a b aS aM c d cS cM W' (by omega) (by omega) h1 h2 (hS.later h) (hM.later h)
    rw [l1, l2] at g
    exact g
  clear hs hv hS hM hI hl hll hMl hh
  dsimp only
  generalize eqD (partS S l) (partM M l) L S M L = r at *
  generalize partS S l = PS at *
  generalize partM M l = PM at *
  generalize l.length = q at *
  generalize S.length = n at *
  generalize M.length = N1 at *
  cases r
  · go_enter Tryd.func20, Tryd.ntmps20
    have k0 := H0.out.cell (k := 0) (i := 0) rfl rfl
    have k1 := H0.out.cell (k := 0) (i := 1) rfl rfl
    have k2 := H0.out.cell (k := 0) (i := 2) rfl rfl
    go_wp2_with fail
    clear k0 k1 k2
    refine HR.out.mono ?_
    rintro e w1 ⟨a1, b1, c1, d1, rfl, n1, n2', hb⟩
    have H1 := Lib.hid ((H0.out.call hb).alloc #[.slice a1 n c1, .slice b1 N1 d1, .int .i64 L] 24 (b := w1.heap.size) rfl rfl)
    have Hs : Hid (Below w1.heap.size w1 (w1.alloc (.cells #[.slice a1 n c1, .slice b1 N1 d1, .int .i64 L] 24))) := Lib.hid ((Below.refl _ _).alloc (Nat.le_refl _) _)
    have N3 := Lib.hid (And.intro (n1.later Hs.out) (n2'.later Hs.out))
    have B1 := Lib.hid (hb.trans (Hs.out.mono hb.size))
    clear n1 n2' hb Hs HR H0
    go_upto_region 2 with fail
    generalize w1.alloc (.cells #[.slice a1 n c1, .slice b1 N1 d1, .int .i64 L] 24) = v1 at *
    generalize w1.heap.size = q1 at *
    have k0 := H1.out.cell (k := 2) (i := 0) rfl rfl
    have k1 := H1.out.cell (k := 2) (i := 1) rfl rfl
    have k2 := H1.out.cell (k := 2) (i := 2) rfl rfl
    have j0 := H1.out.cell (k := 0) (i := 0) rfl rfl
    have j1 := H1.out.cell (k := 0) (i := 1) rfl rfl
    have j2 := H1.out.cell (k := 0) (i := 2) rfl rfl
    go_wp2_with fail
    clear k0 k1 k2 j0 j1 j2
    refine (HE.out a1 b1 c1 d1 v1 H1.out.below N3.out.1 N3.out.2).mono ?_
    rintro e w2 ⟨rfl, hb⟩
    have H2 := Lib.hid (H1.out.call hb)
    have B2 := Lib.hid (B1.out.trans (hb.mono B1.out.size))
    clear hb H1 B1 N3
    go_wp2_with fail
    go_ret
    exact ⟨rfl, H2.out.forgetK (.cons_cons _ (.cons_cons _ (List.nil_sublist _))), Kp.of B2.out⟩
  · go_enter Tryd.func20, Tryd.ntmps20
    have k0 := H0.out.cell (k := 0) (i := 0) rfl rfl
    have k1 := H0.out.cell (k := 0) (i := 1) rfl rfl
    have k2 := H0.out.cell (k := 0) (i := 2) rfl rfl
    go_wp2_with fail
    clear k0 k1 k2
    refine HR.out.mono ?_
    rintro e w1 ⟨a1, b1, c1, d1, rfl, n1, n2', hb⟩
    have H1 := Lib.hid ((H0.out.call hb).alloc #[.slice a1 n c1, .slice b1 N1 d1, .int .i64 L] 24 (b := w1.heap.size) rfl rfl)
    have Hs : Hid (Below w1.heap.size w1 (w1.alloc (.cells #[.slice a1 n c1, .slice b1 N1 d1, .int .i64 L] 24))) := Lib.hid ((Below.refl _ _).alloc (Nat.le_refl _) _)
    have N3 := Lib.hid (And.intro (n1.later Hs.out) (n2'.later Hs.out))
    have B1 := Lib.hid (hb.trans (Hs.out.mono hb.size))
    clear n1 n2' hb Hs HR H0
    go_upto_region 2 with fail
    generalize w1.alloc (.cells #[.slice a1 n c1, .slice b1 N1 d1, .int .i64 L] 24) = v1 at *
    generalize w1.heap.size = q1 at *
    have k0 := H1.out.cell (k := 2) (i := 0) rfl rfl
    have k1 := H1.out.cell (k := 2) (i := 1) rfl rfl
    have k2 := H1.out.cell (k := 2) (i := 2) rfl rfl
    have j0 := H1.out.cell (k := 0) (i := 0) rfl rfl
    have j1 := H1.out.cell (k := 0) (i := 1) rfl rfl
    have j2 := H1.out.cell (k := 0) (i := 2) rfl rfl
    go_wp2_with fail
    clear k0 k1 k2 j0 j1 j2
    refine (HE.out a1 b1 c1 d1 v1 H1.out.below N3.out.1 N3.out.2).mono ?_
    rintro e w2 ⟨rfl, hb⟩
    have H2 := Lib.hid (H1.out.call hb)
    have B2 := Lib.hid (B1.out.trans (hb.mono B1.out.size))
    clear hb H1 B1 N3
    have kb := H2.out.cell (k := 1) (i := 0) rfl rfl
    have kf := H2.out.frozen (k := 1) rfl 0
    have H3 := Lib.hid (H2.out.set (k := 1) rfl 0 (.int .i64 (wrap64 (s + 1))))
    clear H2
    go_wp2_with fail
    go_ret
    exact ⟨rfl, H3.out.forgetK (.cons_cons _ (.cons_cons _ (List.nil_sublist _))), (Kp.of B2.out).set 0 _⟩
end Go.Proofs.YtmhhjchnjaefhaaDoor

