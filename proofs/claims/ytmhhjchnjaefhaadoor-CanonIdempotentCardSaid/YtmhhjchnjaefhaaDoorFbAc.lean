/- Plain laws: half-edges, cycles, labels, validity, sphericity; the reference's. -/
import Derived.WalkKit
import Derived.WalkSpells
import Derived.WalkLawsBesides
import Derived.Deep.AppendSrc
import Derived.Deep.LoopGhost
import Derived.Deep.QuietTactic
import Derived.Deep.RegionWith
import Derived.Deep.DeepMust
import Derived.Deep.DeepFit
import Derived.BigQuiet
import Derived.Lib.Hide
import Derived.Outline
import Derived.Test.YtmhhjchnjaefhaaDoorFbAa
namespace Go.Proofs.YtmhhjchnjaefhaaDoor
open Go Go.RowKit
/-- Is the half-edge h an outgoing one? -/
def outB (S : List Int) (h : Nat) : Bool := (h % 4 == 1 && nth S (h / 4) == 1) || h % 4 == 2 || (h % 4 == 3 && nth S (h / 4) == -1)
theorem outB_0 (S : List Int) (h : Nat) (e : h % 4 = 0) : outB S h = false := by simp [outB, e]
theorem outB_1 (S : List Int) (h : Nat) (e : h % 4 = 1) : outB S h = (nth S (h / 4) == 1) := by simp [outB, e]
theorem outB_2 (S : List Int) (h : Nat) (e : h % 4 = 2) : outB S h = true := by simp [outB, e]
theorem outB_3 (S : List Int) (h : Nat) (e : h % 4 = 3) : outB S h = (nth S (h / 4) == -1) := by simp [outB, e]
/-- The half-edge of the same crossing, b slots further. -/
def tn (h : Nat) (b : Int) : Nat := 4 * (h / 4) + (((h % 4 : Nat) : Int) + b + 8).toNat % 4
theorem tn_div (h : Nat) (b : Int) : tn h b / 4 = h / 4 := by unfold tn; omega
theorem tn_mod (h : Nat) (b : Int) : tn h b % 4 = (((h % 4 : Nat) : Int) + b + 8).toNat % 4 := by unfold tn; omega
theorem tn_lt (h n : Nat) (b : Int) (hh : h < 4 * n) : tn h b < 4 * n := by unfold tn; omega
theorem tmod_four (b : Int) (b0 : -8 ≤ b) (b1 : b ≤ 8) : -3 ≤ b.tmod 4 ∧ b.tmod 4 ≤ 3 ∧ (b - b.tmod 4) % 4 = 0 := by
  by_cases h : 0 ≤ b
  · rw [Int.tmod_eq_emod_of_nonneg h]; omega
  · have : b.tmod 4 = -((-b).tmod 4) := by rw [Int.neg_tmod]; omega
    rw [this, Int.tmod_eq_emod_of_nonneg (by omega)]; omega
theorem turn_num (h : Nat) (b t : Int) (b0 : -8 ≤ b) (_t0 : -3 ≤ t) (_t1 : t ≤ 3) (hd : (b - t) % 4 = 0) : (h : Int) - (h : Int) % 4 + ((h : Int) + t) % 4 = ((tn h b : Nat) : Int) := by
  unfold tn; omega
/-- f, k times. -/
def iter (f : Nat → Nat) : Nat → Nat → Nat
  | 0, x => x
  | k + 1, x => f (iter f k x)
theorem iter_succ (f : Nat → Nat) (k x : Nat) : iter f (k + 1) x = f (iter f k x) := rfl
theorem iter_add (f : Nat → Nat) (a b x : Nat) : iter f (a + b) x = iter f a (iter f b x) := by
  induction a with
  | zero => simp [iter]
  | succ a ih => rw [Nat.add_right_comm, iter_succ, iter_succ, ih]
theorem iter_lt (f : Nat → Nat) (N : Nat) (hf : ∀ x, x < N → f x < N) (k x : Nat) (hx : x < N) : iter f k x < N := by
  induction k with
  | zero => exact hx
  | succ k ih => exact hf _ ih
/-- The first p iterates from s on. -/
def orb (f : Nat → Nat) (s p : Nat) : List Nat := (List.range p).map fun j => iter f j s
/-- Natural numbers as numbers. -/
def nats (l : List Nat) : List Int := l.map Int.ofNat
theorem nats_length (l : List Nat) : (nats l).length = l.length := by simp [nats]
theorem nats_snoc (l : List Nat) (x : Nat) : nats l ++ [(x : Int)] = nats (l ++ [x]) := by simp [nats]
theorem nth_nats (l : List Nat) (i : Nat) (h : i < l.length) : nth (nats l) i = ((l.getD i 0 : Nat) : Int) := by simp [nth, nats, h]
theorem orb_length (f : Nat → Nat) (s p : Nat) : (orb f s p).length = p := by simp [orb]
theorem orb_succ (f : Nat → Nat) (s p : Nat) : orb f s (p + 1) = orb f s p ++ [iter f p s] := by simp [orb, List.range_succ]
theorem orb_getD (f : Nat → Nat) (s p i : Nat) (h : i < p) : (orb f s p).getD i 0 = iter f i s := by simp [orb, h]
/-- p is the length of the cycle of s. -/
def IsPer (f : Nat → Nat) (s p : Nat) : Prop := 0 < p ∧ iter f p s = s ∧ ∀ j, 0 < j → j < p → iter f j s ≠ s
/-- The places on a list are marked. -/
def markL (l : List Nat) (s : List Bool) : List Bool := l.foldl (fun s x => s.set x true) s
theorem markL_snoc (l : List Nat) (x : Nat) (s : List Bool) : markL (l ++ [x]) s = (markL l s).set x true := by simp [markL]
theorem markL_length (l : List Nat) (s : List Bool) : (markL l s).length = s.length := by
  induction l generalizing s with
  | nil => rfl
  | cons x l ih => rw [markL, List.foldl_cons]; exact (ih _).trans (by simp)
theorem bth_markL (l : List Nat) (s : List Bool) (i : Nat) (hi : i < s.length) : bth (markL l s) i = (bth s i || l.contains i) := by
  induction l generalizing s with
  | nil => simp [markL]
  | cons x l ih =>
    have := ih (s.set x true) (by simpa using hi)
    rw [show markL (x :: l) s = markL l (s.set x true) from rfl, this, List.contains_cons]
    by_cases e : x = i
    · subst e
      rw [bth_set _ _ _ _ hi, if_pos rfl]; simp
    · have : bth (s.set x true) i = bth s i := by
        unfold bth; rw [List.getD_eq_getElem?_getD, List.getD_eq_getElem?_getD, List.getElem?_set_ne e]
      rw [this]
      have e2 : (i == x) = false := by simpa using fun h => e h.symm
      rw [e2]; simp
/-- One round: at h. -/
def cyRound (f per : Nat → Nat) (wb : Nat → Bool) (h : Nat) (st : List Bool × List (List Nat)) : List Bool × List (List Nat) :=
  if bth st.1 h = true then st else if wb h = true then (markL (orb f h (per h)) st.1, st.2 ++ [orb f h (per h)]) else st
/-- The first k rounds. -/
def cyTo (f per : Nat → Nat) (wb : Nat → Bool) (N : Nat) : Nat → List Bool × List (List Nat)
  | 0 => (List.replicate N false, [])
  | k + 1 => cyRound f per wb k (cyTo f per wb N k)
/-- The lists. -/
def cycs (f per : Nat → Nat) (wb : Nat → Bool) (N : Nat) : List (List Nat) := (cyTo f per wb N N).2
theorem cyTo_len1 (f per : Nat → Nat) (wb : Nat → Bool) (N k : Nat) : (cyTo f per wb N k).1.length = N := by
  induction k with
  | zero => simp [cyTo]
  | succ k ih =>
    rw [cyTo, cyRound]
    split
    · exact ih
    · split
      · simpa [markL_length] using ih
      · exact ih
theorem cyTo_len2 (f per : Nat → Nat) (wb : Nat → Bool) (N k : Nat) : (cyTo f per wb N k).2.length ≤ k := by
  induction k with
  | zero => simp [cyTo]
  | succ k ih =>
    rw [cyTo, cyRound]
    split
    · omega
    · split
      · simp; omega
      · omega
theorem pigeon : ∀ (N : Nat) (g : Nat → Nat), (∀ i, i ≤ N → g i < N) → ∃ i j, i < j ∧ j ≤ N ∧ g i = g j := by
  intro N
  induction N with
  | zero => intro g h; exact absurd (h 0 (Nat.le_refl _)) (by omega)
  | succ N ih =>
    intro g h
    by_cases hv : ∃ i, i ≤ N ∧ g i = g (N + 1)
    · obtain ⟨i, hi, he⟩ := hv
      exact ⟨i, N + 1, by omega, Nat.le_refl _, he⟩
    · have hv' : ∀ i, i ≤ N → g i ≠ g (N + 1) := fun i hi he => hv ⟨i, hi, he⟩
      have hlast := h (N + 1) (Nat.le_refl _)
      obtain ⟨i, j, hij, hj, he⟩ := ih (fun i => if g i = N then g (N + 1) else g i) (by
        intro i hi
        have h1 := h i (by omega)
        have h2 := hv' i hi
        split <;> omega)
      refine ⟨i, j, hij, by omega, ?_⟩
      have h1 := hv' i (by omega)
      have h2 := hv' j (by omega)
      split at he <;> split at he <;> omega
/-- One-to-one on the numbers below N, which it does not leave. -/
structure Inj (f : Nat → Nat) (N : Nat) : Prop where
  lt : ∀ x, x < N → f x < N
  inj : ∀ x y, x < N → y < N → f x = f y → x = y
theorem iter_cancel {f : Nat → Nat} {N : Nat} (h : Inj f N) (k x y : Nat) (hx : x < N) (hy : y < N) (he : iter f k x = iter f k y) : x = y := by
  induction k with
  | zero => exact he
  | succ k ih => exact ih (h.inj _ _ (iter_lt f N h.lt k x hx) (iter_lt f N h.lt k y hy) he)
theorem exists_per {f : Nat → Nat} {N : Nat} (h : Inj f N) (x : Nat) (hx : x < N) : ∃ p, 0 < p ∧ p ≤ N ∧ iter f p x = x := by
  obtain ⟨i, j, hij, hj, he⟩ := pigeon N (fun k => iter f k x) (fun i _ => iter_lt f N h.lt i x hx)
  refine ⟨j - i, by omega, by omega, ?_⟩
  have : iter f j x = iter f i (iter f (j - i) x) := by rw [← iter_add]; congr 1; omega
  rw [this] at he
  exact (iter_cancel h i _ _ hx (iter_lt f N h.lt _ x hx) he).symm
/-- The length of the cycle of x, by looking. -/
def perOf (f : Nat → Nat) (N x : Nat) : Nat := ((List.range N).find? fun j => iter f (j + 1) x == x).getD 0 + 1
theorem perOf_le (f : Nat → Nat) (N x : Nat) (hN : 0 < N) : perOf f N x ≤ N := by
  unfold perOf
  cases hh : (List.range N).find? fun j => iter f (j + 1) x == x with
  | none => simp; omega
  | some j =>
    have := List.mem_of_find?_eq_some hh
    simp at this ⊢
    omega
theorem find_first {p : Nat → Bool} : ∀ (N j : Nat), (List.range N).find? p = some j → p j = true ∧ j < N ∧ ∀ i, i < j → p i = false := by
  intro N j h
  have h1 := List.find?_some h
  have h2 := List.mem_of_find?_eq_some h
  refine ⟨h1, by simpa using h2, ?_⟩
  rw [List.find?_range_eq_some] at h
  intro i hi
  have := h.2.2 i hi
  simpa using this
theorem perOf_spec {f : Nat → Nat} {N : Nat} (h : Inj f N) (x : Nat) (hx : x < N) : IsPer f x (perOf f N x) := by
  obtain ⟨p, hp, hpN, he⟩ := exists_per h x hx
  unfold perOf
  cases hh : (List.range N).find? fun j => iter f (j + 1) x == x with
  | none =>
    have := (List.find?_eq_none.1 hh) (p - 1) (by simp; omega)
    rw [show p - 1 + 1 = p from by omega] at this
    simp [he] at this
  | some j =>
    obtain ⟨h1, h2, h3⟩ := find_first N j hh
    simp only [Option.getD_some]
    refine ⟨by omega, by simpa using h1, fun i hi hij => ?_⟩
    have := h3 (i - 1) (by omega)
    rw [show i - 1 + 1 = i from by omega] at this
    simpa using this
/-- The iterates repeat with the cycle's length. -/
theorem iter_mul {f : Nat → Nat} {x p : Nat} (h : iter f p x = x) (q : Nat) : iter f (q * p) x = x := by
  induction q with
  | zero => simp [iter]
  | succ q ih => rw [Nat.succ_mul, iter_add, h, ih]
theorem iter_mod {f : Nat → Nat} {x p : Nat} (h : iter f p x = x) (k : Nat) : iter f k x = iter f (k % p) x := by
  have : iter f k x = iter f (k % p + (k / p) * p) x := by congr 1; have := Nat.div_add_mod k p; rw [Nat.mul_comm]; omega
  rw [this, iter_add, iter_mul h]
/-- The cycle of x as a set. -/
def OnOrb (f : Nat → Nat) (x y : Nat) : Prop := ∃ k, iter f k x = y
theorem onOrb_refl (f : Nat → Nat) (x : Nat) : OnOrb f x x := ⟨0, rfl⟩
theorem onOrb_trans {f : Nat → Nat} {x y z : Nat} (h1 : OnOrb f x y) (h2 : OnOrb f y z) : OnOrb f x z := by
  obtain ⟨a, rfl⟩ := h1
  obtain ⟨b, rfl⟩ := h2
  exact ⟨b + a, iter_add f b a x⟩
theorem onOrb_symm {f : Nat → Nat} {N : Nat} (h : Inj f N) {x y : Nat} (hx : x < N) (ho : OnOrb f x y) : OnOrb f y x := by
  obtain ⟨k, rfl⟩ := ho
  obtain ⟨p, hp, _, he⟩ := exists_per h x hx
  refine ⟨p * (k + 1) - k, ?_⟩
  rw [← iter_add]
  have : k ≤ p * (k + 1) := Nat.le_trans (by omega) (Nat.le_mul_of_pos_left _ hp)
  rw [show p * (k + 1) - k + k = (k + 1) * p from by rw [Nat.mul_comm (k + 1) p]; omega]
  exact iter_mul he _
theorem mem_orb {f : Nat → Nat} {x p y : Nat} (h : IsPer f x p) : y ∈ orb f x p ↔ OnOrb f x y := by
  unfold orb OnOrb
  simp only [List.mem_map, List.mem_range]
  constructor
  · rintro ⟨j, _, rfl⟩; exact ⟨j, rfl⟩
  · rintro ⟨k, rfl⟩; exact ⟨k % p, Nat.mod_lt _ h.1, (iter_mod h.2.1 k).symm⟩
theorem onOrb_lt {f : Nat → Nat} {N : Nat} (h : Inj f N) {x y : Nat} (hx : x < N) (ho : OnOrb f x y) : y < N := by
  obtain ⟨k, rfl⟩ := ho; exact iter_lt f N h.lt k x hx
theorem iter_ne {f : Nat → Nat} {N x p : Nat} (h : Inj f N) (hx : x < N) (hp : IsPer f x p) {i j : Nat} (hij : i < j) (hj : j < p) : iter f i x ≠ iter f j x := by
  intro e
  have : iter f j x = iter f i (iter f (j - i) x) := by rw [← iter_add]; congr 1; omega
  rw [this] at e
  exact hp.2.2 (j - i) (by omega) (by omega) (iter_cancel h i _ _ hx (iter_lt f N h.lt _ x hx) e).symm
/-- One slot of a crossing that is taken off the queue: the crossing to which it leads gets the number, and is queued, unless it has one. -/
def lbVisit (M : List Int) (parts : Int) (x : Int) (s : Nat) (st : List Int × List Int) : List Int × List Int :=
  if nth st.1 (nth M (4 * x.toNat + s) / 4).toNat < 0 then (st.1.set (nth M (4 * x.toNat + s) / 4).toNat parts, st.2 ++ [nth M (4 * x.toNat + s) / 4]) else st
/-- The first k slots. -/
def lbSlots (M : List Int) (parts : Int) (x : Int) : Nat → List Int × List Int → List Int × List Int
  | 0, st => st
  | k + 1, st => lbVisit M parts x k (lbSlots M parts x k st)
/-- The queue is worked off, in at most g rounds. -/
def lbQueue (M : List Int) (parts : Int) : Nat → List Int × List Int → Option (List Int)
  | _, (part, []) => some part
  | 0, (_, _ :: _) => none
  | g + 1, (part, x :: q) => lbQueue M parts g (lbSlots M parts x 4 (part, q))
/-- One round of the outer loop, at crossing c. -/
def lbRound (M : List Int) (fuel : Nat) (c : Nat) (st : List Int × Int) : Option (List Int × Int) :=
  if 0 ≤ nth st.1 c then some st else (lbQueue M st.2 fuel (st.1.set c st.2, [(c : Int)])).map fun part => (part, st.2 + 1)
/-- The outer loop, k rounds from crossing c on. -/
def lbOuter (M : List Int) (fuel : Nat) : Nat → Nat → List Int × Int → Option (List Int × Int)
  | 0, _, st => some st
  | k + 1, c, st => (lbRound M fuel c st).bind (lbOuter M fuel k (c + 1))
theorem lbVisit_len1 (M : List Int) (ps x : Int) (s : Nat) (st : List Int × List Int) : (lbVisit M ps x s st).1.length = st.1.length := by
  unfold lbVisit; split <;> simp
theorem lbSlots_len1 (M : List Int) (ps x : Int) (k : Nat) (st : List Int × List Int) : (lbSlots M ps x k st).1.length = st.1.length := by
  induction k with
  | zero => rfl
  | succ k ih => rw [lbSlots, lbVisit_len1, ih]
theorem lbVisit_len2 (M : List Int) (ps x : Int) (s : Nat) (st : List Int × List Int) : st.2.length ≤ (lbVisit M ps x s st).2.length ∧ (lbVisit M ps x s st).2.length ≤ st.2.length + 1 := by
  unfold lbVisit; split <;> simp
theorem lbSlots_len2 (M : List Int) (ps x : Int) (k : Nat) (st : List Int × List Int) : st.2.length ≤ (lbSlots M ps x k st).2.length ∧ (lbSlots M ps x k st).2.length ≤ st.2.length + k := by
  induction k with
  | zero => simp [lbSlots]
  | succ k ih => rw [lbSlots]; have := lbVisit_len2 M ps x k (lbSlots M ps x k st); omega
theorem lbQueue_fuel (M : List Int) (ps : Int) : ∀ (g : Nat) (st : List Int × List Int) (r : List Int), lbQueue M ps g st = some r → st.2.length ≤ g ∧ r.length = st.1.length
  | g, (part, []), r, h => by
    cases g <;> (simp only [lbQueue, Option.some.injEq] at h; subst h; simp)
  | 0, (part, x :: q), r, h => by simp [lbQueue] at h
  | g + 1, (part, x :: q), r, h => by
    rw [lbQueue] at h
    obtain ⟨h1, h2⟩ := lbQueue_fuel M ps g _ r h
    have := lbSlots_len2 M ps x 4 (part, q)
    have h3 := lbSlots_len1 M ps x 4 (part, q)
    simp only [List.length_cons] at *
    exact ⟨by omega, by omega⟩
theorem lbVisit_range (M : List Int) (ps x : Int) (s : Nat) (st : List Int × List Int) (n : Nat) (hr : ∀ i, i < 4 * n → 0 ≤ nth M i ∧ nth M i < 4 * (n : Int)) (hx : x.toNat < n) (hs : s < 4) (h : ∀ y ∈ st.2, 0 ≤ y ∧ y < (n : Int)) : ∀ y ∈ (lbVisit M ps x s st).2, 0 ≤ y ∧ y < (n : Int) := by
  unfold lbVisit
  split
  · intro y hy
    simp only [List.mem_append, List.mem_singleton] at hy
    rcases hy with hy | rfl
    · exact h y hy
    · have := hr (4 * x.toNat + s) (by omega); omega
  · exact h
theorem lbSlots_range (M : List Int) (ps x : Int) (k : Nat) (st : List Int × List Int) (n : Nat) (hr : ∀ i, i < 4 * n → 0 ≤ nth M i ∧ nth M i < 4 * (n : Int)) (hx : x.toNat < n) (hk : k ≤ 4) (h : ∀ y ∈ st.2, 0 ≤ y ∧ y < (n : Int)) : ∀ y ∈ (lbSlots M ps x k st).2, 0 ≤ y ∧ y < (n : Int) := by
  induction k with
  | zero => exact h
  | succ k ih => exact lbVisit_range M ps x k _ n hr hx (by omega) (ih (by omega))
/-- The half-edge behind h around the face to its left. -/
def fc (M : List Int) (h : Nat) : Nat := tn (nth M h).toNat (-1)
/-- The first k crossings are taken off. -/
def exDec (part : List Int) : Nat → List Int → List Int
  | 0, ex => ex
  | k + 1, ex => (exDec part k ex).set (nth part k).toNat (nth (exDec part k ex) (nth part k).toNat - 1)
theorem exDec_len (part : List Int) (k : Nat) (ex : List Int) : (exDec part k ex).length = ex.length := by
  induction k with
  | zero => rfl
  | succ k ih => rw [exDec]; simpa using ih
theorem nth_replicate (n i : Nat) (x : Int) (h : i < n) : nth (List.replicate n x) i = x := by simp [nth, h]
theorem nth_rep0 (n i : Nat) : nth (List.replicate n 0) i = 0 := by
  rcases Nat.lt_or_ge i n with h | h
  · exact nth_replicate n i 0 h
  · exact nth_out _ _ (by simpa using h)
theorem exDec_bd (part : List Int) (m k : Nat) (i : Nat) : -(k : Int) ≤ nth (exDec part k (List.replicate m 0)) i ∧ nth (exDec part k (List.replicate m 0)) i ≤ 0 := by
  induction k with
  | zero => rw [exDec, nth_rep0]; omega
  | succ k ih =>
    rw [exDec]
    rcases Nat.lt_or_ge (nth part k).toNat (exDec part k (List.replicate m 0)).length with h | h
    · rw [nth_set _ _ _ _ h]
      by_cases e : (nth part k).toNat = i
      · rw [if_pos e, e]; omega
      · rw [if_neg e]; omega
    · rw [List.set_eq_of_length_le h]; omega
/-- One round: at the half-edge h. -/
def sfRound (f per : Nat → Nat) (part : List Int) (h : Nat) (st : List Bool × List Int) : List Bool × List Int :=
  if bth st.1 h = true then st else (markL (orb f h (per h)) st.1, st.2.set (nth part (h / 4)).toNat (nth st.2 (nth part (h / 4)).toNat + 1))
/-- The first k rounds. -/
def sfTo (f per : Nat → Nat) (part : List Int) (N : Nat) (ex : List Int) : Nat → List Bool × List Int
  | 0 => (List.replicate N false, ex)
  | k + 1 => sfRound f per part k (sfTo f per part N ex k)
theorem sfTo_len (f per : Nat → Nat) (part : List Int) (N : Nat) (ex : List Int) (k : Nat) : (sfTo f per part N ex k).1.length = N ∧ (sfTo f per part N ex k).2.length = ex.length := by
  induction k with
  | zero => simp [sfTo]
  | succ k ih =>
    rw [sfTo, sfRound]
    split
    · exact ih
    · simpa [markL_length] using ih
theorem sfTo_bd (f per : Nat → Nat) (part : List Int) (N : Nat) (ex : List Int) (lo : Int) (hex : ∀ i, lo ≤ nth ex i ∧ nth ex i ≤ 0) (k i : Nat) : lo ≤ nth (sfTo f per part N ex k).2 i ∧ nth (sfTo f per part N ex k).2 i ≤ k := by
  induction k with
  | zero => rw [sfTo]; have := hex i; simp only; omega
  | succ k ih =>
    rw [sfTo, sfRound]
    split
    · omega
    · simp only
      rcases Nat.lt_or_ge (nth part (k / 4)).toNat (sfTo f per part N ex k).2.length with h | h
      · rw [nth_set _ _ _ _ h]
        by_cases e : (nth part (k / 4)).toNat = i
        · rw [if_pos e, e]; omega
        · rw [if_neg e]; omega
      · rw [List.set_eq_of_length_le h]; omega
theorem bth_rep (N i : Nat) : bth (List.replicate N false) i = false := by
  rcases Nat.lt_or_ge i N with h | h <;> simp [bth, h]
/-- What is marked is made of whole cycles. -/
theorem sfTo_closed {f per : Nat → Nat} {N : Nat} (hf : Inj f N) (hp : ∀ x, x < N → IsPer f x (per x)) (part : List Int) (ex : List Int) (k : Nat) (hk : k ≤ N) :
    ∀ x y, x < N → OnOrb f x y → bth (sfTo f per part N ex k).1 y = bth (sfTo f per part N ex k).1 x := by
  induction k with
  | zero => intro x y _ _; rw [sfTo]; simp only; rw [bth_rep, bth_rep]
  | succ k ih =>
    intro x y hx ho
    have ih' := ih (by omega)
    have hl := (sfTo_len f per part N ex k).1
    have hy := onOrb_lt hf hx ho
    rw [sfTo, sfRound]
    split
    · exact ih' x y hx ho
    · simp only
      rw [bth_markL _ _ _ (by rw [hl]; exact hy), bth_markL _ _ _ (by rw [hl]; exact hx), ih' x y hx ho]
      congr 1
      have : (y ∈ orb f k (per k)) ↔ (x ∈ orb f k (per k)) := by
        rw [mem_orb (hp k (by omega)), mem_orb (hp k (by omega))]
        exact ⟨fun h => onOrb_trans h (onOrb_symm hf hx ho), fun h => onOrb_trans h ho⟩
      rw [Bool.eq_iff_iff]
      simpa using this
/-- Marking along the cycle of an unmarked half-edge: the next one is unmarked till the cycle closes. -/
theorem mark_along {f per : Nat → Nat} {N : Nat} (hf : Inj f N) (hp : ∀ x, x < N → IsPer f x (per x)) (part : List Int) (ex : List Int) (k : Nat) (hk : k < N) (hun : bth (sfTo f per part N ex k).1 k = false) (j : Nat) (hj : j ≤ per k) :
    bth (markL (orb f k j) (sfTo f per part N ex k).1) (iter f j k) = decide (j = per k) := by
  have hl := (sfTo_len f per part N ex k).1
  have hx := iter_lt f N hf.lt j k hk
  rw [bth_markL _ _ _ (by rw [hl]; exact hx), sfTo_closed hf hp part ex k (by omega) k _ hk ⟨j, rfl⟩, hun, Bool.false_or]
  by_cases e : j = per k
  · subst e
    have h0 := hp k hk
    rw [decide_eq_true rfl, h0.2.1]
    have : k ∈ orb f k (per k) := (mem_orb h0).2 (onOrb_refl f k)
    simpa using this
  · rw [decide_eq_false e]
    have : ¬ iter f j k ∈ orb f k j := by
      intro hm
      unfold orb at hm
      simp only [List.mem_map, List.mem_range] at hm
      obtain ⟨i, hi, he⟩ := hm
      exact iter_ne hf hk (hp k hk) hi (by omega) he
    simpa using this
/-- Does every number on the list read 2? -/
def allTwo (l : List Int) : Bool := l.all (· == 2)
/-- spherical's answer, the labels at hand. -/
def sphL (M : List Int) (n : Nat) (part : List Int) (parts : Nat) : Bool :=
  allTwo (sfTo (fc M) (perOf (fc M) (4 * n)) part (4 * n) (exDec part n (List.replicate parts 0)) (4 * n)).2
/-- .. and with the labels. -/
def sphB (M : List Int) (n : Nat) : Bool :=
  match lbOuter M 1000000 n 0 (List.replicate n (-1), 0) with
  | none => false
  | some (part, parts) => sphL M n part parts.toNat
/-- All signs are 1 or -1, among the first k. -/
def signsTo (S : List Int) (k : Nat) : Prop := ∀ c, c < k → nth S c = 1 ∨ nth S c = -1
/-- One mate is in order. -/
def mateOk (S M : List Int) (n h : Nat) : Prop := 0 ≤ nth M h ∧ nth M h < 4 * (n : Int) ∧ nth M h ≠ (h : Int) ∧ nth M (nth M h).toNat = (h : Int) ∧ outB S h ≠ outB S (nth M h).toNat
instance (S M : List Int) (n h : Nat) : Decidable (mateOk S M n h) := by unfold mateOk; infer_instance
/-- The first k mates are in order. -/
def matesTo (S M : List Int) (n k : Nat) : Prop := ∀ h, h < k → mateOk S M n h
/-- The sizes, the signs and the mates are in order. -/
def shapeB (S M : List Int) (L : Int) : Bool :=
  decide (S.length ≤ 64) && decide (M.length = 4 * S.length) && decide (0 ≤ L) && decide (L ≤ 64) && decide (∀ c, c < S.length → nth S c = 1 ∨ nth S c = -1) && decide (∀ h, h < 4 * S.length → mateOk S M S.length h)
/-- diagram.Valid's answer. -/
def vldB (S M : List Int) (L : Int) : Bool := shapeB S M L && sphB M S.length
structure Shape (S M : List Int) (L : Int) : Prop where
  few : S.length ≤ 64
  len : M.length = 4 * S.length
  lo : 0 ≤ L
  hi : L ≤ 64
  sign : ∀ c, c < S.length → nth S c = 1 ∨ nth S c = -1
  mate : ∀ h, h < 4 * S.length → mateOk S M S.length h
theorem shapeB_iff (S M : List Int) (L : Int) : shapeB S M L = true ↔ Shape S M L := by
  unfold shapeB
  simp only [Bool.and_eq_true, decide_eq_true_eq]
  exact ⟨fun ⟨⟨⟨⟨⟨a, b⟩, c⟩, d⟩, e⟩, f⟩ => ⟨a, b, c, d, e, f⟩, fun ⟨a, b, c, d, e, f⟩ => ⟨⟨⟨⟨⟨a, b⟩, c⟩, d⟩, e⟩, f⟩⟩
theorem vldB_no {S M : List Int} {L : Int} (h : ¬ Shape S M L) : vldB S M L = false := by
  unfold vldB
  have : shapeB S M L = false := by rw [← Bool.not_eq_true]; rw [shapeB_iff]; exact h
  rw [this, Bool.false_and]
theorem vldB_yes {S M : List Int} {L : Int} (h : Shape S M L) : vldB S M L = sphB M S.length := by
  unfold vldB
  rw [(shapeB_iff S M L).2 h, Bool.true_and]
namespace Shape
variable {S M : List Int} {L : Int} (hs : Shape S M L)
include hs
/-- The mate of a half-edge. -/
theorem range : ∀ i, i < 4 * S.length → 0 ≤ nth M i ∧ nth M i < 4 * (S.length : Int) := fun i hi => ⟨(hs.mate i hi).1, (hs.mate i hi).2.1⟩
theorem toNat_lt (i : Nat) (hi : i < 4 * S.length) : (nth M i).toNat < 4 * S.length := by have := hs.range i hi; omega
theorem invol (i : Nat) (hi : i < 4 * S.length) : (nth M (nth M i).toNat).toNat = i := by have := (hs.mate i hi).2.2.2.1; omega
/-- The face's step is one-to-one. -/
theorem injF : Inj (fc M) (4 * S.length) := by
  refine ⟨fun x hx => tn_lt _ _ _ (hs.toNat_lt x hx), fun x y hx hy he => ?_⟩
  have h1 : (nth M x).toNat = (nth M y).toNat := by
    unfold fc tn at he
    omega
  have h2 := hs.invol x hx
  have h3 := hs.invol y hy
  rw [h1] at h2
  omega
end Shape
/-- A half-edge of c has its mate at d. -/
def Adj (M : List Int) (c d : Nat) : Prop := ∃ s, s < 4 ∧ (nth M (4 * c + s)).toNat / 4 = d
/-- d is in every set that holds c and, with a crossing, all its neighbours. -/
def Conn (M : List Int) (c d : Nat) : Prop := ∀ Q : Nat → Prop, Q c → (∀ x y, Q x → Adj M x y → Q y) → Q d
theorem Conn.refl (M : List Int) (c : Nat) : Conn M c c := fun _ h _ => h
theorem Conn.trans {M : List Int} {a b c : Nat} (h1 : Conn M a b) (h2 : Conn M b c) : Conn M a c := fun Q h hs => h2 Q (h1 Q h hs) hs
theorem Conn.adj {M : List Int} {a b : Nat} (h : Adj M a b) : Conn M a b := fun _ ha hs => hs a b ha h
theorem Conn.step {M : List Int} {a b c : Nat} (h1 : Conn M a b) (h : Adj M b c) : Conn M a c := h1.trans (Conn.adj h)
/-- Mates are in order: all that connectivity wants. -/
structure MateOk (M : List Int) (n : Nat) : Prop where
  lt : ∀ h, h < 4 * n → 0 ≤ nth M h ∧ nth M h < 4 * (n : Int)
  inv : ∀ h, h < 4 * n → nth M (nth M h).toNat = (h : Int)
theorem Shape.mates {S M : List Int} {L : Int} (hs : Shape S M L) : MateOk M S.length := ⟨hs.range, fun h hh => (hs.mate h hh).2.2.2.1⟩
namespace MateOk
variable {M : List Int} {n : Nat} (hm : MateOk M n)
include hm
theorem adj_lt {c d : Nat} (hc : c < n) (h : Adj M c d) : d < n := by
  obtain ⟨s, hs, rfl⟩ := h
  have := hm.lt (4 * c + s) (by omega)
  omega
theorem adj_symm {c d : Nat} (hc : c < n) (h : Adj M c d) : Adj M d c := by
  obtain ⟨s, hs, rfl⟩ := h
  have h1 := hm.lt (4 * c + s) (by omega)
  have h2 := hm.inv (4 * c + s) (by omega)
  refine ⟨(nth M (4 * c + s)).toNat % 4, by omega, ?_⟩
  rw [Nat.div_add_mod, h2]
  omega
theorem conn_lt {c d : Nat} (hc : c < n) (h : Conn M c d) : d < n := h (· < n) hc fun _ _ hx ha => hm.adj_lt hx ha
theorem conn_symm {c d : Nat} (hc : c < n) (h : Conn M c d) : Conn M d c := by
  refine (h (fun x => x < n ∧ Conn M x c) ⟨hc, Conn.refl M c⟩ ?_).2
  rintro x y ⟨hx, hxc⟩ ha
  exact ⟨hm.adj_lt hx ha, (Conn.adj (hm.adj_symm hx ha)).trans hxc⟩
end MateOk
/-- How many entries are negative. -/
def negs (l : List Int) : Nat := l.countP (· < 0)
theorem negs_set_neg (l : List Int) (i : Nat) (x : Int) (hi : i < l.length) (h : nth l i < 0) (hx : 0 ≤ x) : negs (l.set i x) + 1 = negs l := by
  have hl : l[i] < 0 := by simpa [nth, hi] using h
  have hpos : 0 < l.countP (· < 0) := List.countP_pos_iff.2 ⟨l[i], List.getElem_mem hi, by simpa using hl⟩
  unfold negs
  rw [List.countP_set hi]
  have : ¬ x < 0 := by omega
  simp [hl, this]
  omega
theorem negs_le (l : List Int) : negs l ≤ l.length := List.countP_le_length
/-- What holds while a component is numbered p from the crossing r: 'base' is the list as it was before. -/
structure LbInv (M : List Int) (n : Nat) (p : Int) (r : Nat) (base : List Int) (st : List Int × List Int) : Prop where
  len : st.1.length = n
  qin : ∀ x ∈ st.2, ∃ c : Nat, x = (c : Int) ∧ c < n ∧ nth st.1 c = p
  old : ∀ d, d < n → 0 ≤ nth base d → nth st.1 d = nth base d
  new : ∀ d, d < n → nth st.1 d = nth base d ∨ (nth st.1 d = p ∧ Conn M r d)
/-- The labels that stand already: below p; whole components. -/
structure LbBase (M : List Int) (n : Nat) (p : Int) (base : List Int) : Prop where
  len : base.length = n
  lt : ∀ d, d < n → nth base d < p
  closed : ∀ c d, c < n → Adj M c d → 0 ≤ nth base c → nth base d = nth base c
theorem LbInv.visit {M : List Int} {n : Nat} {p : Int} {r : Nat} {base : List Int} {st : List Int × List Int} (hm : MateOk M n) (hp : 0 ≤ p) (h : LbInv M n p r base st)
    (x s : Nat) (hx : x < n) (hs : s < 4) (hxr : Conn M r x) : LbInv M n p r base (lbVisit M p (x : Int) s st) ∧ negs (lbVisit M p (x : Int) s st).1 + (lbVisit M p (x : Int) s st).2.length = negs st.1 + st.2.length ∧
      (∀ y ∈ st.2, y ∈ (lbVisit M p (x : Int) s st).2) ∧ (∀ d, d < n → 0 ≤ nth st.1 d → nth (lbVisit M p (x : Int) s st).1 d = nth st.1 d) ∧
      0 ≤ nth (lbVisit M p (x : Int) s st).1 ((nth M (4 * x + s)).toNat / 4) ∧
      (∀ c, c < n → nth (lbVisit M p (x : Int) s st).1 c = p → nth st.1 c = p ∨ (c : Int) ∈ (lbVisit M p (x : Int) s st).2) := by
  have h1 := hm.lt (4 * x + s) (by omega)
  have ha : Adj M x ((nth M (4 * x + s)).toNat / 4) := ⟨s, hs, rfl⟩
  have hlt := hm.adj_lt hx ha
  have e : (nth M (4 * ((x : Nat) : Int).toNat + s) / 4) = (((nth M (4 * x + s)).toNat / 4 : Nat) : Int) := by rw [Int.toNat_natCast]; omega
  unfold lbVisit
  rw [e, Int.toNat_natCast]
  generalize hd : (nth M (4 * x + s)).toNat / 4 = d at *
  by_cases hneg : nth st.1 d < 0
  · rw [if_pos hneg]
    have hdl : d < st.1.length := by rw [h.len]; exact hlt
    have hset := fun j => nth_set st.1 d j p hdl
    refine ⟨⟨by simpa using h.len, ?_, ?_, ?_⟩, ?_, ?_, ?_, ?_, ?_⟩
    · intro y hy
      simp only [List.mem_append, List.mem_singleton] at hy
      rcases hy with hy | rfl
      · obtain ⟨c, rfl, hc, hpc⟩ := h.qin y hy
        refine ⟨c, rfl, hc, ?_⟩
        simp only
        rw [hset]
        split
        · rfl
        · exact hpc
      · refine ⟨d, rfl, hlt, ?_⟩
        simp only
        rw [hset, if_pos rfl]
    · intro j hj hbj
      simp only
      rw [hset]
      split
      · rename_i hdj
        subst hdj
        have := h.old d hj hbj
        omega
      · exact h.old j hj hbj
    · intro j hj
      simp only
      rw [hset]
      split
      · rename_i hdj
        subst hdj
        exact .inr ⟨rfl, hxr.step ha⟩
      · exact h.new j hj
    · simp only [List.length_append, List.length_singleton]
      have := negs_set_neg st.1 d p hdl hneg hp
      omega
    · intro y hy; simp only [List.mem_append]; exact .inl hy
    · intro j hj hnn
      simp only
      rw [hset]
      split
      · rename_i hdj
        subst hdj
        omega
      · rfl
    · simp only
      rw [hset, if_pos rfl]; exact hp
    · intro c hc hcp
      simp only at hcp ⊢
      rw [hset] at hcp
      split at hcp
      · rename_i hdc
        subst hdc
        exact .inr (by simp)
      · exact .inl hcp
  · rw [if_neg hneg]
    exact ⟨h, rfl, fun _ hy => hy, fun _ _ _ => rfl, by omega, fun c _ hcp => .inl hcp⟩
theorem LbInv.slots {M : List Int} {n : Nat} {p : Int} {r : Nat} {base : List Int} {st : List Int × List Int} (hm : MateOk M n) (hp : 0 ≤ p) (h : LbInv M n p r base st)
    (x k : Nat) (hx : x < n) (hk : k ≤ 4) (hxr : Conn M r x) : LbInv M n p r base (lbSlots M p (x : Int) k st) ∧ negs (lbSlots M p (x : Int) k st).1 + (lbSlots M p (x : Int) k st).2.length = negs st.1 + st.2.length ∧
      (∀ y ∈ st.2, y ∈ (lbSlots M p (x : Int) k st).2) ∧ (∀ d, d < n → 0 ≤ nth st.1 d → nth (lbSlots M p (x : Int) k st).1 d = nth st.1 d) ∧
      (∀ s, s < k → 0 ≤ nth (lbSlots M p (x : Int) k st).1 ((nth M (4 * x + s)).toNat / 4)) ∧
      (∀ c, c < n → nth (lbSlots M p (x : Int) k st).1 c = p → nth st.1 c = p ∨ (c : Int) ∈ (lbSlots M p (x : Int) k st).2) := by
  induction k with
  | zero => exact ⟨h, rfl, fun _ hy => hy, fun _ _ _ => rfl, fun s hs => by omega, fun c _ hcp => .inl hcp⟩
  | succ k ih =>
    obtain ⟨i1, i2, i3, i4, i5, i6⟩ := ih (by omega)
    obtain ⟨j1, j2, j3, j4, j5, j6⟩ := i1.visit hm hp x k hx (by omega) hxr
    rw [lbSlots]
    refine ⟨j1, by omega, fun y hy => j3 y (i3 y hy), ?_, ?_, ?_⟩
    · intro d hd hnn
      rw [j4 d hd (by rw [i4 d hd hnn]; exact hnn), i4 d hd hnn]
    · intro s hs
      rcases Nat.lt_or_ge s k with h2 | h2
      · have h3 := i5 s h2
        have hlt := hm.adj_lt hx ⟨s, by omega, rfl⟩
        rw [j4 _ hlt h3]; exact h3
      · obtain rfl : s = k := by omega
        exact j5
    · intro c hc hcp
      rcases j6 c hc hcp with h2 | h2
      · rcases i6 c hc h2 with h3 | h3
        · exact .inl h3
        · exact .inr (j3 _ h3)
      · exact .inr h2
/-- The queue worked off. -/
theorem LbInv.queue {M : List Int} {n : Nat} {p : Int} {r : Nat} {base : List Int} (hm : MateOk M n) (hp : 0 ≤ p) (hb : LbBase M n p base) :
    ∀ (g : Nat) (st : List Int × List Int), LbInv M n p r base st → negs st.1 + st.2.length ≤ g → (∀ c, c < n → nth st.1 c = p → (c : Int) ∈ st.2 ∨ ∀ d, Adj M c d → 0 ≤ nth st.1 d) → (∀ x ∈ st.2, ∀ c : Nat, x = (c : Int) → Conn M r c) →
    ∃ part, lbQueue M p g st = some part ∧ LbInv M n p r base (part, []) ∧ (∀ c, c < n → nth part c = p → ∀ d, Adj M c d → 0 ≤ nth part d) ∧ (∀ d, d < n → 0 ≤ nth st.1 d → nth part d = nth st.1 d) := by
  intro g
  induction g with
  | zero =>
    rintro ⟨part, q⟩ h hg hdone hq
    cases q with
    | nil => exact ⟨part, by simp [lbQueue], h, fun c hc hcp d hd => by simpa using (hdone c hc hcp).resolve_left (by simp) d hd, fun _ _ _ => rfl⟩
    | cons x q => simp at hg
  | succ g ih =>
    rintro ⟨part, q⟩ h hg hdone hq
    cases q with
    | nil => exact ⟨part, by simp [lbQueue], h, fun c hc hcp d hd => by simpa using (hdone c hc hcp).resolve_left (by simp) d hd, fun _ _ _ => rfl⟩
    | cons x q =>
      obtain ⟨c, rfl, hc, hpc⟩ := h.qin x (by simp)
      have hrc := hq _ (by simp) c rfl
      have h' : LbInv M n p r base (part, q) := ⟨h.len, fun y hy => h.qin y (List.mem_cons_of_mem _ hy), h.old, h.new⟩
      obtain ⟨i1, i2, i3, i4, i5, i6⟩ := h'.slots hm hp c 4 hc (Nat.le_refl _) hrc
      simp only [List.length_cons] at hg
      simp only at i2 i4 i6 hdone
      have hA : ∀ b, b < n → nth (lbSlots M p (c : Int) 4 (part, q)).1 b = p → (b : Int) ∈ (lbSlots M p (c : Int) 4 (part, q)).2 ∨ ∀ d, Adj M b d → 0 ≤ nth (lbSlots M p (c : Int) 4 (part, q)).1 d := by
        intro b hbn hbp
        rcases i6 b hbn hbp with h2 | h2
        · rcases hdone b hbn h2 with h3 | h3
          · simp only [List.mem_cons] at h3
            rcases h3 with h3 | h3
            · have : b = c := by omega
              subst this
              refine .inr fun d hd => ?_
              obtain ⟨s, hs, rfl⟩ := hd
              exact i5 s hs
            · exact .inl (i3 _ h3)
          · refine .inr fun d hd => ?_
            have := h3 d hd
            rw [i4 d (hm.adj_lt hbn hd) this]; exact this
        · exact .inl h2
      have hB : ∀ y ∈ (lbSlots M p (c : Int) 4 (part, q)).2, ∀ b : Nat, y = (b : Int) → Conn M r b := by
        intro y hy b hyb
        subst hyb
        obtain ⟨b', hb', hbn, hbp⟩ := i1.qin _ hy
        have : b = b' := by omega
        subst this
        rcases i1.new b hbn with h2 | h2
        · have := hb.lt b hbn
          omega
        · exact h2.2
      obtain ⟨part', k1, k2, k3, k4⟩ := ih _ i1 (by omega) hA hB
      refine ⟨part', by rw [lbQueue]; exact k1, k2, k3, fun d hd hnn => ?_⟩
      rw [k4 d hd (by rw [i4 d hd hnn]; exact hnn), i4 d hd hnn]
/-- What holds after c rounds of the outer loop. -/
structure LbOut (M : List Int) (n c : Nat) (st : List Int × Int) : Prop where
  base : LbBase M n st.2 st.1
  lo : 0 ≤ st.2
  hi : st.2 ≤ c
  neg : ∀ d, d < n → -1 ≤ nth st.1 d
  seen : ∀ d, d < c → 0 ≤ nth st.1 d
  conn : ∀ a b, a < n → b < n → 0 ≤ nth st.1 a → nth st.1 a = nth st.1 b → Conn M a b
  hit : ∀ q : Nat, (q : Int) < st.2 → ∃ d, d < n ∧ nth st.1 d = q
theorem LbOut.round {M : List Int} {n c : Nat} {st : List Int × Int} (hm : MateOk M n) (h : LbOut M n c st) (hc : c < n) (hn : n ≤ 1000) : ∃ st', lbRound M 1000000 c st = some st' ∧ LbOut M n (c + 1) st' := by
  unfold lbRound
  by_cases hneg : 0 ≤ nth st.1 c
  · rw [if_pos hneg]
    refine ⟨st, rfl, h.base, h.lo, by have := h.hi; omega, h.neg, fun d hd => ?_, h.conn, h.hit⟩
    rcases Nat.lt_or_ge d c with h2 | h2
    · exact h.seen d h2
    · obtain rfl : d = c := by omega
      exact hneg
  · rw [if_neg hneg]
    have hlen := h.base.len
    have hset := fun j => nth_set st.1 c j st.2 (by rw [hlen]; exact hc)
    have hinv : LbInv M n st.2 c st.1 (st.1.set c st.2, [(c : Int)]) := by
      refine ⟨by simpa using hlen, ?_, ?_, ?_⟩
      · intro x hx
        simp only [List.mem_singleton] at hx
        subst hx
        exact ⟨c, rfl, hc, by simp only; rw [hset, if_pos rfl]⟩
      · intro d hd hnn
        simp only
        rw [hset]
        split
        · rename_i e; subst e; omega
        · rfl
      · intro d hd
        simp only
        rw [hset]
        split
        · rename_i e; subst e; exact .inr ⟨rfl, Conn.refl M c⟩
        · exact .inl rfl
    have hng : negs (st.1.set c st.2) + 1 ≤ 1000000 := by
      have := negs_le (st.1.set c st.2)
      rw [List.length_set, hlen] at this
      omega
    obtain ⟨part, k1, k2, k3, k4⟩ := LbInv.queue hm h.lo h.base 1000000 _ hinv (by simpa using hng) (by
        intro b hb hbp
        simp only at hbp ⊢
        rw [hset] at hbp
        split at hbp
        · rename_i e; subst e; exact .inl (by simp)
        · have := h.base.lt b hb; omega) (by
        intro x hx b hxb
        simp only [List.mem_singleton] at hx
        have : b = c := by omega
        subst this
        exact Conn.refl M _)
    rw [k1]
    refine ⟨_, rfl, ?_⟩
    have hcp : nth part c = st.2 := by
      rw [k4 c hc (by simp only; rw [hset, if_pos rfl]; exact h.lo)]
      simp only
      rw [hset, if_pos rfl]
    have hconnp : ∀ d, d < n → nth part d = st.2 → Conn M c d := fun d hd hdp => by
      rcases k2.new d hd with h2 | h2
      · have := h.base.lt d hd
        simp only at h2
        omega
      · exact h2.2
    refine ⟨⟨k2.len, ?_, ?_⟩, by have := h.lo; simp only; omega, by have := h.hi; simp only; omega, ?_, ?_, ?_, ?_⟩
    · intro d hd
      simp only
      rcases k2.new d hd with h2 | h2
      · have := h.base.lt d hd
        simp only at h2
        omega
      · have := h2.1
        simp only at this
        omega
    · intro a b ha hab hnn
      simp only at hnn ⊢
      have hb := hm.adj_lt ha hab
      rcases k2.new a ha with h2 | h2
      · simp only at h2
        have h3 := h.base.closed a b ha hab (by omega)
        have h4 := k2.old b hb (by omega)
        simp only at h4
        omega
      · have h2' := h2.1
        simp only at h2'
        have h3 := k3 a ha h2' b hab
        rcases k2.new b hb with h4 | h4
        · simp only at h4
          have h5 := h.base.closed b a hb (hm.adj_symm ha hab) (by omega)
          have h6 := k2.old a ha (by omega)
          have h7 := h.base.lt b hb
          simp only at h6
          omega
        · have := h4.1
          simp only at this
          omega
    · intro d hd
      simp only
      rcases k2.new d hd with h2 | h2
      · have := h.neg d hd
        simp only at h2
        omega
      · have := h2.1
        have := h.lo
        simp only at *
        omega
    · intro d hd
      simp only
      rcases Nat.lt_or_ge d c with h2 | h2
      · have h3 := h.seen d h2
        have h4 := k2.old d (by omega) h3
        simp only at h4
        omega
      · obtain rfl : d = c := by omega
        rw [hcp]; exact h.lo
    · intro a b ha hb hnn hab
      simp only at hnn hab
      by_cases hap : nth part a = st.2
      · exact (hm.conn_symm hc (hconnp a ha hap)).trans (hconnp b hb (by omega))
      · have h1 := (k2.new a ha).resolve_right (fun h => hap h.1)
        have h2 := (k2.new b hb).resolve_right (fun h => by have := h.1; simp only at this; omega)
        simp only at h1 h2
        exact h.conn a b ha hb (by omega) (by omega)
    · intro q hq
      simp only at hq ⊢
      by_cases e : (q : Int) = st.2
      · exact ⟨c, hc, by rw [hcp, e]⟩
      · obtain ⟨d, hd, he⟩ := h.hit q (by omega)
        refine ⟨d, hd, ?_⟩
        have := k2.old d hd (by omega)
        simp only at this
        omega
theorem LbOut.outer {M : List Int} {n : Nat} (hm : MateOk M n) (hn : n ≤ 1000) : ∀ (k c : Nat) (st : List Int × Int), LbOut M n c st → c + k = n → ∃ st', lbOuter M 1000000 k c st = some st' ∧ LbOut M n n st' := by
  intro k
  induction k with
  | zero =>
    intro c st h hc
    have e : c = n := by omega
    subst e
    exact ⟨st, rfl, h⟩
  | succ k ih =>
    intro c st h hc
    obtain ⟨st1, h1, h2⟩ := h.round hm (by omega) hn
    obtain ⟨st2, h3, h4⟩ := ih (c + 1) st1 h2 (by omega)
    exact ⟨st2, by rw [lbOuter, h1]; exact h3, h4⟩
/-- What label gives: numbers from 0 on, each taken, the same just at connected crossings. -/
structure Labels (M : List Int) (n : Nat) (part : List Int) (parts : Nat) : Prop where
  len : part.length = n
  range : ∀ c, c < n → 0 ≤ nth part c ∧ nth part c < (parts : Int)
  iff : ∀ a b, a < n → b < n → (nth part a = nth part b ↔ Conn M a b)
  hit : ∀ q, q < parts → ∃ d, d < n ∧ nth part d = (q : Int)
  le : parts ≤ n
theorem label_spec {M : List Int} {n : Nat} (hm : MateOk M n) (hn : n ≤ 1000) : ∃ part parts, lbOuter M 1000000 n 0 (List.replicate n (-1), 0) = some (part, ((parts : Nat) : Int)) ∧ Labels M n part parts := by
  have h0 : LbOut M n 0 (List.replicate n (-1), 0) := by
    have hr : ∀ d, d < n → nth (List.replicate n (-1 : Int)) d = -1 := fun d hd => nth_replicate n d (-1) hd
    refine ⟨⟨by simp, fun d hd => ?_, fun c d hc _ hnn => ?_⟩, Int.le_refl _, Int.le_refl _, fun d hd => ?_, fun d hd => by omega, fun a b ha _ hnn => ?_, fun q hq => ?_⟩
    · simp only; rw [hr d hd]; omega
    · simp only at hnn; rw [hr c hc] at hnn; omega
    · simp only; rw [hr d hd]; omega
    · simp only at hnn; rw [hr a ha] at hnn; omega
    · simp only at hq; omega
  obtain ⟨⟨part, ps⟩, h1, h2⟩ := LbOut.outer hm hn n 0 _ h0 (by omega)
  have hlo := h2.lo
  have hhi := h2.hi
  simp only at hlo hhi
  have hseen := h2.seen
  have hclosed := h2.base.closed
  refine ⟨part, ps.toNat, ?_, h2.base.len, fun c hc => ?_, fun a b ha hb => ⟨fun e => h2.conn a b ha hb (hseen a ha) e, fun hab => ?_⟩, fun q hq => ?_, by omega⟩
  · rw [h1, show ((ps.toNat : Nat) : Int) = ps from by omega]
  · have h3 := hseen c hc
    have h4 := h2.base.lt c hc
    simp only at h3 h4
    omega
  · refine (hab (fun x => x < n ∧ nth part x = nth part a) ⟨ha, rfl⟩ ?_).2.symm
    rintro x y ⟨hx, he⟩ hxy
    exact ⟨hm.adj_lt hx hxy, by have := hclosed x y hx hxy (hseen x hx); simp only at this; omega⟩
  · exact h2.hit q (by simp only; omega)
/-- The step along the mate and b slots further. -/
def fb (M : List Int) (b : Int) (h : Nat) : Nat := tn (nth M h).toNat b
theorem MateOk.injB {M : List Int} {n : Nat} (hm : MateOk M n) (b : Int) (b0 : -8 ≤ b) : Inj (fb M b) (4 * n) := by
  refine ⟨fun x hx => tn_lt _ _ _ (by have := hm.lt x hx; omega), fun x y hx hy he => ?_⟩
  have h1 := hm.lt x hx
  have h2 := hm.lt y hy
  have h3 := hm.inv x hx
  have h4 := hm.inv y hy
  have h5 : (nth M x).toNat = (nth M y).toNat := by
    unfold fb tn at he
    omega
  rw [h5] at h3
  omega
/-- Is h the least of its cycle? -/
def leastB (f per : Nat → Nat) (h : Nat) : Bool := (orb f h (per h)).all fun g => decide (h ≤ g)
/-- The cycles of the wanted numbers below k, each from its least element. -/
def clTo (f per : Nat → Nat) (wb : Nat → Bool) (k : Nat) : List (List Nat) := ((List.range k).filter fun h => wb h && leastB f per h).map fun h => orb f h (per h)
theorem clTo_succ (f per : Nat → Nat) (wb : Nat → Bool) (k : Nat) : clTo f per wb (k + 1) = if (wb k && leastB f per k) = true then clTo f per wb k ++ [orb f k (per k)] else clTo f per wb k := by
  unfold clTo
  rw [List.range_succ, List.filter_append]
  by_cases h : (wb k && leastB f per k) = true <;> simp [h]
/-- cycles gives just these. -/
theorem cyTo_marks {f per : Nat → Nat} {N : Nat} (hf : Inj f N) (hp : ∀ x, x < N → IsPer f x (per x)) (wb : Nat → Bool) (hw : ∀ x, x < N → wb (f x) = wb x) (k : Nat) (hk : k ≤ N) :
    (∀ y, y < N → (bth (cyTo f per wb N k).1 y = true ↔ wb y = true ∧ ∃ x, x < k ∧ OnOrb f x y)) ∧ (cyTo f per wb N k).2 = clTo f per wb k := by
  have hwo : ∀ x y, x < N → OnOrb f x y → wb y = wb x := by
    rintro x y hx ⟨j, rfl⟩
    induction j with
    | zero => rfl
    | succ j ih => rw [iter_succ, hw _ (iter_lt f N hf.lt j x hx), ih]
  induction k with
  | zero =>
    refine ⟨fun y hy => ?_, by simp [cyTo, clTo]⟩
    have : bth (cyTo f per wb N 0).1 y = false := by simp [cyTo, bth, hy]
    rw [this]
    simp
  | succ k ih =>
    obtain ⟨i1, i2⟩ := ih (by omega)
    have hl := cyTo_len1 f per wb N k
    have hkN : k < N := by omega
    rw [cyTo, cyRound, clTo_succ]
    have hseen := i1 k hkN
    have hleast : wb k = true → (leastB f per k = true ↔ ¬ bth (cyTo f per wb N k).1 k = true) := by
      intro hwk
      rw [hseen]
      unfold leastB
      rw [List.all_eq_true]
      constructor
      · rintro h ⟨_, x, hx, ho⟩
        have := h x ((mem_orb (hp k hkN)).2 (onOrb_symm hf (by omega) ho))
        simp at this
        omega
      · intro h g hg
        rw [mem_orb (hp k hkN)] at hg
        simp only [decide_eq_true_eq]
        rcases Nat.lt_or_ge g k with h2 | h2
        · exact absurd ⟨hwk, g, h2, onOrb_symm hf hkN hg⟩ h
        · exact h2
    by_cases hs : bth (cyTo f per wb N k).1 k = true
    · rw [if_pos hs]
      have hwk := (hseen.1 hs).1
      have hno : ¬ (wb k && leastB f per k) = true := by
        rw [Bool.and_eq_true, hleast hwk]
        exact fun h => h.2 hs
      rw [if_neg hno]
      refine ⟨fun y hy => ?_, i2⟩
      rw [i1 y hy]
      constructor
      · rintro ⟨h1, x, hx, h2⟩; exact ⟨h1, x, by omega, h2⟩
      · rintro ⟨h1, x, hx, h2⟩
        rcases Nat.lt_or_ge x k with h3 | h3
        · exact ⟨h1, x, h3, h2⟩
        · obtain rfl : x = k := by omega
          obtain ⟨_, x', hx', h4⟩ := hseen.1 hs
          exact ⟨h1, x', hx', onOrb_trans h4 h2⟩
    · rw [if_neg hs]
      by_cases hwk : wb k = true
      · have hyes : (wb k && leastB f per k) = true := by rw [Bool.and_eq_true]; exact ⟨hwk, (hleast hwk).2 hs⟩
        rw [if_pos hwk, if_pos hyes]
        refine ⟨fun y hy => ?_, by simp only; rw [i2]⟩
        simp only
        rw [bth_markL _ _ _ (by rw [hl]; exact hy), Bool.or_eq_true, i1 y hy]
        have hc : (orb f k (per k)).contains y = true ↔ OnOrb f k y := by rw [List.contains_iff_mem, mem_orb (hp k hkN)]
        rw [hc]
        constructor
        · rintro (⟨h1, x, hx, h2⟩ | h2)
          · exact ⟨h1, x, by omega, h2⟩
          · exact ⟨by rw [hwo k y hkN h2]; exact hwk, k, by omega, h2⟩
        · rintro ⟨h1, x, hx, h2⟩
          rcases Nat.lt_or_ge x k with h3 | h3
          · exact .inl ⟨h1, x, h3, h2⟩
          · obtain rfl : x = k := by omega
            exact .inr h2
      · rw [if_neg hwk]
        have hno : ¬ (wb k && leastB f per k) = true := by rw [Bool.and_eq_true]; exact fun h => hwk h.1
        rw [if_neg hno]
        refine ⟨fun y hy => ?_, i2⟩
        rw [i1 y hy]
        constructor
        · rintro ⟨h1, x, hx, h2⟩; exact ⟨h1, x, by omega, h2⟩
        · rintro ⟨h1, x, hx, h2⟩
          rcases Nat.lt_or_ge x k with h3 | h3
          · exact ⟨h1, x, h3, h2⟩
          · obtain rfl : x = k := by omega
            exact absurd (by rw [← hwo _ y hkN h2]; exact h1) hwk
theorem cycs_eq {f per : Nat → Nat} {N : Nat} (hf : Inj f N) (hp : ∀ x, x < N → IsPer f x (per x)) (wb : Nat → Bool) (hw : ∀ x, x < N → wb (f x) = wb x) : cycs f per wb N = clTo f per wb N :=
  (cyTo_marks hf hp wb hw N (Nat.le_refl _)).2
/-- One edge: both ends take the lesser label. -/
def rlStep (M : List Int) (h : Nat) (l : List Int) : List Int :=
  (l.set (h / 4) (min (nth l (h / 4)) (nth l ((nth M h).toNat / 4)))).set ((nth M h).toNat / 4) (min (nth l (h / 4)) (nth l ((nth M h).toNat / 4)))
/-- The first k half-edges. -/
def rlTo (M : List Int) : Nat → List Int → List Int
  | 0, l => l
  | k + 1, l => rlStep M k (rlTo M k l)
/-- The first k passes. -/
def rlPass (M : List Int) (n : Nat) : Nat → List Int
  | 0 => nats (List.range n)
  | k + 1 => rlTo M (4 * n) (rlPass M n k)
/-- The reference's Label. -/
def rlabel (M : List Int) (n : Nat) : List Int := rlPass M n n
theorem rlStep_len (M : List Int) (h : Nat) (l : List Int) : (rlStep M h l).length = l.length := by simp [rlStep]
theorem rlTo_len (M : List Int) (k : Nat) (l : List Int) : (rlTo M k l).length = l.length := by
  induction k with
  | zero => rfl
  | succ k ih => rw [rlTo, rlStep_len, ih]
theorem rlPass_len (M : List Int) (n k : Nat) : (rlPass M n k).length = n := by
  induction k with
  | zero => simp [rlPass, nats]
  | succ k ih => rw [rlPass, rlTo_len, ih]
/-- What holds of the labels throughout: each is a connected crossing. -/
def RlInv (M : List Int) (n : Nat) (l : List Int) : Prop := l.length = n ∧ ∀ c, c < n → ∃ d : Nat, nth l c = (d : Int) ∧ d < n ∧ Conn M c d
theorem nth_step {M : List Int} {n h : Nat} {l : List Int} (hm : MateOk M n) (hl : l.length = n) (hh : h < 4 * n) (j : Nat) :
    nth (rlStep M h l) j = if j = h / 4 ∨ j = (nth M h).toNat / 4 then min (nth l (h / 4)) (nth l ((nth M h).toNat / 4)) else nth l j := by
  have h1 := hm.lt h hh
  unfold rlStep
  rw [nth_set _ _ _ _ (by rw [List.length_set]; omega), nth_set _ _ _ _ (by omega)]
  by_cases e1 : (nth M h).toNat / 4 = j
  · rw [if_pos e1, if_pos (.inr e1.symm)]
  · rw [if_neg e1]
    by_cases e2 : h / 4 = j
    · rw [if_pos e2, if_pos (.inl e2.symm)]
    · rw [if_neg e2, if_neg (by omega)]
theorem RlInv.step {M : List Int} {n h : Nat} {l : List Int} (hm : MateOk M n) (hi : RlInv M n l) (hh : h < 4 * n) : RlInv M n (rlStep M h l) := by
  refine ⟨by rw [rlStep_len]; exact hi.1, fun c hc => ?_⟩
  rw [nth_step hm hi.1 hh]
  have h1 := hm.lt h hh
  have ha : Adj M (h / 4) ((nth M h).toNat / 4) := ⟨h % 4, by omega, by rw [Nat.div_add_mod]⟩
  have hb := hm.adj_symm (by omega) ha
  split
  · rename_i e
    obtain ⟨d1, k1, k2, k3⟩ := hi.2 (h / 4) (by omega)
    obtain ⟨d2, k4, k5, k6⟩ := hi.2 ((nth M h).toNat / 4) (by omega)
    have g1 : Conn M c d1 := by
      rcases e with rfl | rfl
      · exact k3
      · exact (Conn.adj hb).trans k3
    have g2 : Conn M c d2 := by
      rcases e with rfl | rfl
      · exact (Conn.adj ha).trans k6
      · exact k6
    rw [k1, k4]
    by_cases hle : (d1 : Int) ≤ d2
    · exact ⟨d1, by omega, k2, g1⟩
    · exact ⟨d2, by omega, k5, g2⟩
  · exact hi.2 c hc
theorem rlStep_le {M : List Int} {n h : Nat} {l : List Int} (hm : MateOk M n) (hl : l.length = n) (hh : h < 4 * n) (j : Nat) : nth (rlStep M h l) j ≤ nth l j := by
  rw [nth_step hm hl hh]
  split
  · rename_i e; rcases e with rfl | rfl <;> omega
  · omega
theorem RlInv.to {M : List Int} {n : Nat} {l : List Int} (hm : MateOk M n) (hi : RlInv M n l) (k : Nat) (hk : k ≤ 4 * n) : RlInv M n (rlTo M k l) ∧ ∀ j, nth (rlTo M k l) j ≤ nth l j := by
  induction k with
  | zero => exact ⟨hi, fun j => by rw [rlTo]; omega⟩
  | succ k ih =>
    obtain ⟨i1, i2⟩ := ih (by omega)
    rw [rlTo]
    exact ⟨i1.step hm (by omega), fun j => by have := rlStep_le hm i1.1 (show k < 4 * n by omega) j; have := i2 j; omega⟩
/-- Behind a whole pass the far end of an edge is no greater than the near end was. -/
theorem rlTo_edge {M : List Int} {n : Nat} {l : List Int} (hm : MateOk M n) (hi : RlInv M n l) (h : Nat) (hh : h < 4 * n) : nth (rlTo M (4 * n) l) ((nth M h).toNat / 4) ≤ nth l (h / 4) := by
  have key : ∀ k, h < k → k ≤ 4 * n → nth (rlTo M k l) ((nth M h).toNat / 4) ≤ nth l (h / 4) := by
    intro k
    induction k with
    | zero => omega
    | succ k ih =>
      intro h1 h2
      obtain ⟨i1, i2⟩ := hi.to hm k (by omega)
      rw [rlTo]
      by_cases e : k = h
      · subst e
        rw [nth_step hm i1.1 hh, if_pos (.inr rfl)]
        have := i2 (k / 4)
        omega
      · have := ih (by omega) (by omega)
        have := rlStep_le hm i1.1 (show k < 4 * n by omega) ((nth M h).toNat / 4)
        omega
  exact key (4 * n) hh (Nat.le_refl _)
theorem rlPass_inv {M : List Int} {n : Nat} (hm : MateOk M n) (k : Nat) : RlInv M n (rlPass M n k) ∧ ∀ c, c < n → nth (rlPass M n k) c ≤ c := by
  induction k with
  | zero =>
    have h0 : ∀ c, c < n → nth (rlPass M n 0) c = (c : Int) := fun c hc => by rw [rlPass, nth_nats _ _ (by simpa using hc)]; simp [hc]
    exact ⟨⟨rlPass_len M n 0, fun c hc => ⟨c, h0 c hc, hc, Conn.refl M c⟩⟩, fun c hc => by rw [h0 c hc]; omega⟩
  | succ k ih =>
    obtain ⟨i1, i2⟩ := ih
    obtain ⟨j1, j2⟩ := i1.to hm (4 * n) (Nat.le_refl _)
    rw [rlPass]
    exact ⟨j1, fun c hc => by have := j2 c; have := i2 c hc; omega⟩
/-- A label is settled: no connected crossing is less. -/
def Settled (M : List Int) (l : List Int) (c : Nat) : Prop := ∀ d, Conn M c d → nth l c ≤ (d : Int)
theorem settled_mono {M : List Int} {l l' : List Int} (h : ∀ j, nth l' j ≤ nth l j) {c : Nat} (hc : Settled M l c) : Settled M l' c := fun d hd => by have := hc d hd; have := h c; omega
open Classical in
/-- How many labels are settled. -/
noncomputable def settledN (M : List Int) (n : Nat) (l : List Int) : Nat := (List.range n).countP fun c => decide (Settled M l c)
theorem countP_lt {α : Type} {p q : α → Bool} {l : List α} (h : ∀ x, x ∈ l → p x = true → q x = true) (x : α) (hx : x ∈ l) (hp : p x = false) (hq : q x = true) : l.countP p < l.countP q := by
  induction l with
  | nil => cases hx
  | cons y l ih =>
    have hmono : l.countP p ≤ l.countP q := List.countP_mono_left fun z hz => h z (List.mem_cons_of_mem _ hz)
    rcases List.mem_cons.1 hx with rfl | hx'
    · simp only [List.countP_cons, hp, hq]
      simp
      omega
    · have := ih (fun z hz => h z (List.mem_cons_of_mem _ hz)) hx'
      simp only [List.countP_cons]
      by_cases hy : p y = true
      · rw [if_pos hy, if_pos (h y (by simp) hy)]; omega
      · rw [if_neg hy]; omega
/-- A least connected crossing. -/
theorem exists_min (M : List Int) (c : Nat) : ∃ d, Conn M c d ∧ ∀ e, Conn M c e → d ≤ e := by
  obtain ⟨d, h1, h2⟩ := exists_least (p := fun d => Conn M c d) ⟨c, Conn.refl M c⟩
  exact ⟨d, h1, h2⟩
theorem rlabel_settled {M : List Int} {n : Nat} (hm : MateOk M n) : ∀ c, c < n → Settled M (rlabel M n) c := by
  have key : ∀ k, k ≤ n → (∀ c, c < n → Settled M (rlPass M n k) c) ∨ k ≤ settledN M n (rlPass M n k) := by
    intro k
    induction k with
    | zero => intro _; exact .inr (Nat.zero_le _)
    | succ k ih =>
      intro hk
      obtain ⟨i1, i2⟩ := rlPass_inv hm k
      obtain ⟨j1, j2⟩ := i1.to hm (4 * n) (Nat.le_refl _)
      have hmono : ∀ c, Settled M (rlPass M n k) c → Settled M (rlPass M n (k + 1)) c := fun c hc => settled_mono (fun j => by rw [rlPass]; exact j2 j) hc
      rcases ih (by omega) with h | h
      · exact .inl fun c hc => hmono c (h c hc)
      · by_cases hall : ∀ c, c < n → Settled M (rlPass M n (k + 1)) c
        · exact .inl hall
        · refine .inr ?_
          simp only [Classical.not_forall] at hall
          obtain ⟨c, hc, hns⟩ := hall
          -- an edge from a settled crossing to one that isn't
          have hex : ∃ x y, x < n ∧ y < n ∧ Conn M c x ∧ Adj M x y ∧ Settled M (rlPass M n k) x ∧ ¬ Settled M (rlPass M n k) y := by
            apply Classical.byContradiction
            intro hno
            obtain ⟨d, hd1, hd2⟩ := exists_min M c
            have hdn := hm.conn_lt hc hd1
            have hds : Settled M (rlPass M n k) d := fun e he => by
              have := i2 d hdn
              have := hd2 e (hd1.trans he)
              omega
            have hdc := hm.conn_symm hc hd1
            have := (hdc (fun x => x < n ∧ Conn M c x ∧ Settled M (rlPass M n k) x) ⟨hdn, hd1, hds⟩ (by
              rintro x y ⟨g1, g2, g3⟩ hxy
              have g4 := hm.adj_lt g1 hxy
              refine ⟨g4, g2.step hxy, ?_⟩
              apply Classical.byContradiction
              intro g5
              exact hno ⟨x, y, g1, g4, g2, hxy, g3, g5⟩)).2.2
            exact hns (hmono c this)
          obtain ⟨x, y, hx, hy, hcx, hxy, hsx, hsy⟩ := hex
          have hsy' : Settled M (rlPass M n (k + 1)) y := by
            intro e he
            obtain ⟨s, hs, rfl⟩ := hxy
            have h1 := rlTo_edge hm i1 (4 * x + s) (by omega)
            rw [rlPass]
            have h2 := hsx e ((Conn.adj ⟨s, hs, rfl⟩).trans he)
            rw [show (4 * x + s) / 4 = x from by omega] at h1
            omega
          have : settledN M n (rlPass M n k) < settledN M n (rlPass M n (k + 1)) := by
            unfold settledN
            exact countP_lt (fun z _ hz => by simp only [decide_eq_true_eq] at hz ⊢; exact hmono z hz) y (by simpa using hy) (by simpa using hsy) (by simpa using hsy')
          omega
  intro c hc
  rcases key n (Nat.le_refl _) with h | h
  · exact h c hc
  · have hall : settledN M n (rlabel M n) = (List.range n).length := by
      have h1 : settledN M n (rlabel M n) ≤ (List.range n).length := List.countP_le_length
      have h2 : n ≤ settledN M n (rlabel M n) := h
      rw [List.length_range] at *
      omega
    unfold settledN at hall
    rw [List.countP_eq_length] at hall
    have := hall c (by simpa using hc)
    simpa using this
/-- The reference's label: the least connected crossing. -/
theorem rlabel_spec {M : List Int} {n : Nat} (hm : MateOk M n) (c : Nat) (hc : c < n) : ∃ d : Nat, nth (rlabel M n) c = (d : Int) ∧ d < n ∧ Conn M c d ∧ ∀ e, Conn M c e → d ≤ e := by
  obtain ⟨d, h1, h2, h3⟩ := (rlPass_inv hm n).1.2 c hc
  refine ⟨d, h1, h2, h3, fun e he => ?_⟩
  have := rlabel_settled hm c hc e he
  unfold rlabel at this
  omega
theorem rlabel_iff {M : List Int} {n : Nat} (hm : MateOk M n) (a b : Nat) (ha : a < n) (hb : b < n) : nth (rlabel M n) a = nth (rlabel M n) b ↔ Conn M a b := by
  obtain ⟨d, h1, h2, h3, h4⟩ := rlabel_spec hm a ha
  obtain ⟨e, k1, k2, k3, k4⟩ := rlabel_spec hm b hb
  rw [h1, k1]
  constructor
  · intro he
    have : d = e := by omega
    subst this
    exact h3.trans (hm.conn_symm hb k3)
  · intro hab
    have g1 := k4 d ((hm.conn_symm ha hab).trans h3)
    have g2 := h4 e (hab.trans k3)
    omega
open Classical in
/-- The faces at the crossings connected to c: each counted at its least half-edge. -/
noncomputable def FC (M : List Int) (n c : Nat) : Nat := (List.range (4 * n)).countP fun h => leastB (fc M) (perOf (fc M) (4 * n)) h && decide (Conn M c (h / 4))
open Classical in
/-- The crossings connected to c. -/
noncomputable def VC (M : List Int) (n c : Nat) : Nat := (List.range n).countP fun d => decide (Conn M c d)
/-- Each connected part lies on a sphere. -/
def Sph (M : List Int) (n : Nat) : Prop := ∀ c, c < n → FC M n c = VC M n c + 2
theorem leastB_iff {f per : Nat → Nat} {N k : Nat} (hf : Inj f N) (hp : ∀ x, x < N → IsPer f x (per x)) (hk : k < N) : leastB f per k = true ↔ ∀ x, x < k → ¬ OnOrb f x k := by
  unfold leastB
  rw [List.all_eq_true]
  constructor
  · rintro h x hx ho
    have := h x ((mem_orb (hp k hk)).2 (onOrb_symm hf (by omega) ho))
    simp at this
    omega
  · intro h g hg
    rw [mem_orb (hp k hk)] at hg
    simp only [decide_eq_true_eq]
    rcases Nat.lt_or_ge g k with h2 | h2
    · exact absurd (onOrb_symm hf hk hg) (h g h2)
    · exact h2
theorem sfTo_marks (f per : Nat → Nat) (part : List Int) (N : Nat) (ex : List Int) (k : Nat) : (sfTo f per part N ex k).1 = (cyTo f per (fun _ => true) N k).1 := by
  induction k with
  | zero => rfl
  | succ k ih =>
    rw [sfTo, cyTo, sfRound, cyRound, ih]
    split
    · exact ih
    · simp
theorem sfTo_least {f per : Nat → Nat} {N k : Nat} (hf : Inj f N) (hp : ∀ x, x < N → IsPer f x (per x)) (hk : k < N) (part ex : List Int) : bth (sfTo f per part N ex k).1 k = true ↔ ¬ leastB f per k = true := by
  rw [sfTo_marks, (cyTo_marks hf hp (fun _ => true) (fun _ _ => rfl) k (by omega)).1 k hk, leastB_iff hf hp hk]
  constructor
  · rintro ⟨_, x, hx, ho⟩ h; exact h x hx ho
  · intro h
    refine ⟨rfl, ?_⟩
    have := Classical.not_forall.1 h
    obtain ⟨x, hx⟩ := this
    have := Classical.not_forall.1 hx
    obtain ⟨hx, ho⟩ := this
    exact ⟨x, hx, Classical.not_not.1 ho⟩
theorem sfTo_val {f per : Nat → Nat} {N : Nat} (hf : Inj f N) (hp : ∀ x, x < N → IsPer f x (per x)) (part ex : List Int) (hpart : ∀ c, 4 * c < N → (nth part c).toNat < ex.length) (p k : Nat) (hk : k ≤ N) :
    nth (sfTo f per part N ex k).2 p = nth ex p + (((List.range k).countP fun h => leastB f per h && decide ((nth part (h / 4)).toNat = p) : Nat) : Int) := by
  induction k with
  | zero => simp [sfTo]
  | succ k ih =>
    have ih := ih (by omega)
    rw [sfTo, sfRound, List.range_succ, List.countP_append]
    have hl := (sfTo_len f per part N ex k).2
    have hq := hpart (k / 4) (by omega)
    have hlb := sfTo_least hf hp (show k < N by omega) part ex
    by_cases hm : bth (sfTo f per part N ex k).1 k = true
    · rw [if_pos hm, ih]
      have : leastB f per k = false := by simpa using hlb.1 hm
      simp [this]
    · rw [if_neg hm]
      have : leastB f per k = true := by
        by_cases hh : leastB f per k = true
        · exact hh
        · exact absurd (hlb.2 hh) hm
      simp only
      rw [nth_set _ _ _ _ (by rw [hl]; exact hq)]
      by_cases e : (nth part (k / 4)).toNat = p
      · rw [if_pos e, e, ih]; simp [this, e]; omega
      · rw [if_neg e, ih]; simp [e]
theorem exDec_val (part : List Int) (m k p : Nat) (hpart : ∀ c, c < k → (nth part c).toNat < m) : nth (exDec part k (List.replicate m 0)) p = -(((List.range k).countP fun c => decide ((nth part c).toNat = p) : Nat) : Int) := by
  induction k with
  | zero => rw [exDec, nth_rep0]; simp
  | succ k ih =>
    have ih := ih fun c hc => hpart c (by omega)
    rw [exDec, List.range_succ, List.countP_append, nth_set _ _ _ _ (by rw [exDec_len]; simpa using hpart k (by omega))]
    by_cases e : (nth part k).toNat = p
    · rw [if_pos e, e, ih]; simp [e]; omega
    · rw [if_neg e, ih]; simp [e]
theorem allTwo_iff (l : List Int) : allTwo l = true ↔ ∀ p, p < l.length → nth l p = 2 := by
  unfold allTwo
  rw [List.all_eq_true]
  constructor
  · intro h p hp
    have := h (l[p]) (List.getElem_mem hp)
    simpa [nth, hp] using this
  · intro h x hx
    obtain ⟨i, hi, rfl⟩ := List.getElem_of_mem hx
    have := h i hi
    simpa [nth, hi] using this
theorem perOf_all {f : Nat → Nat} {N : Nat} (h : Inj f N) : ∀ x, x < N → IsPer f x (perOf f N x) := fun x hx => perOf_spec h x hx
theorem MateOk.injF {M : List Int} {n : Nat} (hm : MateOk M n) : Inj (fc M) (4 * n) := hm.injB (-1) (by omega)
/-- spherical's answer is sphericity. -/
theorem sphL_iff {M : List Int} {n : Nat} (hm : MateOk M n) {part : List Int} {parts : Nat} (hl : Labels M n part parts) : sphL M n part parts = true ↔ Sph M n := by
  have hf := hm.injF
  have hp := perOf_all hf
  have hpart : ∀ c, c < n → (nth part c).toNat < parts := fun c hc => by have := hl.range c hc; omega
  unfold sphL
  have hlen : (sfTo (fc M) (perOf (fc M) (4 * n)) part (4 * n) (exDec part n (List.replicate parts 0)) (4 * n)).2.length = parts := by rw [(sfTo_len _ _ _ _ _ _).2, exDec_len]; simp
  rw [allTwo_iff, hlen]
  have hval : ∀ p c, p < parts → c < n → (nth part c).toNat = p → nth (sfTo (fc M) (perOf (fc M) (4 * n)) part (4 * n) (exDec part n (List.replicate parts 0)) (4 * n)).2 p = (FC M n c : Int) - (VC M n c : Int) := by
    intro p c hp' hc he
    have hcc : ∀ d, d < n → ((nth part d).toNat = p ↔ Conn M c d) := by
      intro d hd
      rw [← hl.iff c d hc hd]
      have h1 := hl.range c hc
      have h2 := hl.range d hd
      omega
    rw [sfTo_val hf hp part _ (fun c hc => by rw [exDec_len]; simpa using hpart c (by omega)) p _ (Nat.le_refl _), exDec_val part parts n p hpart]
    have e1 : ((List.range (4 * n)).countP fun h => leastB (fc M) (perOf (fc M) (4 * n)) h && decide ((nth part (h / 4)).toNat = p)) = FC M n c := by
      unfold FC
      refine List.countP_congr fun h hh => ?_
      rw [List.mem_range] at hh
      simp only [Bool.and_eq_true, decide_eq_true_eq]
      rw [hcc (h / 4) (by omega)]
    have e2 : ((List.range n).countP fun c => decide ((nth part c).toNat = p)) = VC M n c := by
      unfold VC
      refine List.countP_congr fun d hd => ?_
      rw [List.mem_range] at hd
      simp only [decide_eq_true_eq]
      exact hcc d hd
    rw [e1, e2]; omega
  constructor
  · intro h c hc
    have h1 := h _ (hpart c hc)
    rw [hval _ c (hpart c hc) hc rfl] at h1
    omega
  · intro h p hp'
    obtain ⟨d, hd, he⟩ := hl.hit p hp'
    rw [hval p d hp' hd (by omega), h d hd]
    omega
theorem sphB_iff {M : List Int} {n : Nat} (hm : MateOk M n) (hn : n ≤ 1000) : sphB M n = true ↔ Sph M n := by
  obtain ⟨part, parts, h1, h2⟩ := label_spec hm hn
  unfold sphB
  rw [h1]
  exact sphL_iff hm h2
/-- A diagram is valid. -/
theorem vldB_iff {S M : List Int} {L : Int} : vldB S M L = true ↔ Shape S M L ∧ Sph M S.length := by
  constructor
  · intro h
    by_cases hs : Shape S M L
    · rw [vldB_yes hs, sphB_iff hs.mates (by have := hs.few; omega)] at h
      exact ⟨hs, h⟩
    · rw [vldB_no hs] at h; exact absurd h (by simp)
  · rintro ⟨hs, h⟩
    rw [vldB_yes hs, sphB_iff hs.mates (by have := hs.few; omega)]
    exact h
end Go.Proofs.YtmhhjchnjaefhaaDoor


