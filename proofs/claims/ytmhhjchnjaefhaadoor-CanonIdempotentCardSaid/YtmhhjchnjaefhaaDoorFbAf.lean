/- Plain law: on a sphere each even set of edges bounds. -/
import Derived.WalkKit
import Derived.WalkSpells
import Derived.WalkLawsBesides
import Derived.Deep.AppendSrc
import Derived.Deep.LoopGhost
import Derived.Deep.QuietTactic
import Derived.Deep.RegionWith
import Derived.Deep.DeepMust
import Derived.Deep.DeepFit
import Derived.BigQuiet
import Derived.Lib.Hide
import Derived.Outline
import Derived.Test.YtmhhjchnjaefhaaDoorFbAa
import Derived.Test.YtmhhjchnjaefhaaDoorFbAc
namespace Go.Proofs.YtmhhjchnjaefhaaDoor
open Go Go.RowKit
/-- How many numbers below N pass. -/
def cnt (p : Nat → Bool) (N : Nat) : Nat := (List.range N).countP p
theorem cnt_zero (p : Nat → Bool) : cnt p 0 = 0 := rfl
theorem cnt_succ (p : Nat → Bool) (N : Nat) : cnt p (N + 1) = cnt p N + if p N = true then 1 else 0 := by
  unfold cnt
  rw [List.range_succ, List.countP_append, List.countP_singleton]
theorem cnt_congr {p q : Nat → Bool} {N : Nat} (h : ∀ x, x < N → p x = q x) : cnt p N = cnt q N := by
  induction N with
  | zero => rfl
  | succ N ih => rw [cnt_succ, cnt_succ, ih fun x hx => h x (by omega), h N (by omega)]
theorem cnt_le (p : Nat → Bool) (N : Nat) : cnt p N ≤ N := by
  induction N with
  | zero => exact Nat.le_refl _
  | succ N ih => rw [cnt_succ]; split <;> omega
theorem cnt_remove {p : Nat → Bool} {N y : Nat} (hy : y < N) (hp : p y = true) : cnt (fun x => p x && decide (x ≠ y)) N + 1 = cnt p N := by
  induction N with
  | zero => omega
  | succ N ih =>
    rw [cnt_succ, cnt_succ]
    by_cases e : y = N
    · subst e
      have h1 : cnt (fun x => p x && decide (x ≠ y)) y = cnt p y := cnt_congr fun x hx => by
        have : decide (x ≠ y) = true := decide_eq_true (by omega)
        rw [this, Bool.and_true]
      rw [h1, hp]; simp
    · have := ih (by omega)
      have h2 : (p N && decide (N ≠ y)) = p N := by
        have : decide (N ≠ y) = true := decide_eq_true (by omega)
        rw [this, Bool.and_true]
      rw [h2]; omega
/-- A one-to-one way into another set. -/
theorem cnt_inj {p : Nat → Bool} {N : Nat} (f : Nat → Nat) : ∀ {M : Nat} {q : Nat → Bool}, (∀ x, x < N → p x = true → f x < M ∧ q (f x) = true) → (∀ x y, x < N → y < N → p x = true → p y = true → f x = f y → x = y) → cnt p N ≤ cnt q M := by
  induction N with
  | zero => intro M q _ _; rw [cnt_zero]; omega
  | succ N ih =>
    intro M q h hi
    rw [cnt_succ]
    by_cases hp : p N = true
    · rw [if_pos hp]
      obtain ⟨h1, h2⟩ := h N (by omega) hp
      have h3 := ih (M := M) (q := fun x => q x && decide (x ≠ f N)) (fun x hx hpx => by
        obtain ⟨k1, k2⟩ := h x (by omega) hpx
        refine ⟨k1, ?_⟩
        rw [k2, Bool.true_and]
        exact decide_eq_true fun e => by have := hi x N (by omega) (by omega) hpx hp e; omega) (fun x y hx hy => hi x y (by omega) (by omega))
      have h4 := cnt_remove h1 h2
      omega
    · rw [if_neg hp]
      exact ih (fun x hx => h x (by omega)) (fun x y hx hy => hi x y (by omega) (by omega))
theorem cnt_split (p q : Nat → Bool) (N : Nat) : cnt p N = cnt (fun x => p x && q x) N + cnt (fun x => p x && !q x) N := by
  induction N with
  | zero => rfl
  | succ N ih =>
    rw [cnt_succ, cnt_succ, cnt_succ, ih]
    cases p N <;> cases q N <;> simp <;> omega
/-- A set closed under an involution without a fixed point is even. -/
theorem cnt_even {p : Nat → Bool} {N : Nat} (m : Nat → Nat) (h : ∀ x, x < N → p x = true → m x < N ∧ p (m x) = true ∧ m (m x) = x ∧ m x ≠ x) : cnt p N % 2 = 0 := by
  rw [cnt_split p (fun x => decide (x < m x))]
  have e1 : cnt (fun x => p x && decide (x < m x)) N ≤ cnt (fun x => p x && !decide (x < m x)) N := by
    refine cnt_inj m (fun x hx hpx => ?_) (fun x y hx hy hpx hpy he => ?_)
    · simp only [Bool.and_eq_true, decide_eq_true_eq] at hpx
      obtain ⟨h1, h2, h3, h4⟩ := h x hx hpx.1
      refine ⟨h1, ?_⟩
      rw [h2, h3, Bool.true_and, Bool.not_eq_true']
      exact decide_eq_false (by omega)
    · simp only [Bool.and_eq_true] at hpx hpy
      have h1 := (h x hx hpx.1).2.2.1
      have h2 := (h y hy hpy.1).2.2.1
      rw [← h1, ← h2, he]
  have e2 : cnt (fun x => p x && !decide (x < m x)) N ≤ cnt (fun x => p x && decide (x < m x)) N := by
    refine cnt_inj m (fun x hx hpx => ?_) (fun x y hx hy hpx hpy he => ?_)
    · simp only [Bool.and_eq_true, Bool.not_eq_true', decide_eq_false_iff_not] at hpx
      obtain ⟨h1, h2, h3, h4⟩ := h x hx hpx.1
      refine ⟨h1, ?_⟩
      rw [h2, h3, Bool.true_and]
      exact decide_eq_true (by omega)
    · simp only [Bool.and_eq_true] at hpx hpy
      have h1 := (h x hx hpx.1).2.2.1
      have h2 := (h y hy hpy.1).2.2.1
      rw [← h1, ← h2, he]
  omega
/-- A union of even fibres is even. -/
theorem cnt_fibres {Z : Nat → Bool} {N : Nat} (v : Nat → Nat) (P : Nat → Bool) (B : Nat) (hv : ∀ x, x < N → v x < B) (h : ∀ y, y < B → P y = true → cnt (fun x => decide (v x = y) && Z x) N % 2 = 0) : cnt (fun x => P (v x) && Z x) N % 2 = 0 := by
  have key : ∀ b, b ≤ B → cnt (fun x => decide (v x < b) && P (v x) && Z x) N % 2 = 0 := by
    intro b
    induction b with
    | zero =>
      intro _
      have : cnt (fun x => decide (v x < 0) && P (v x) && Z x) N = cnt (fun _ => false) N := cnt_congr fun x _ => by simp
      rw [this]
      have h0 : ∀ n, cnt (fun _ => false) n = 0 := by
        intro n
        induction n with
        | zero => rfl
        | succ n ih => rw [cnt_succ, ih]; simp
      rw [h0]
    | succ b ih =>
      intro hb
      have ih := ih (by omega)
      have hs := cnt_split (fun x => decide (v x < b + 1) && P (v x) && Z x) (fun x => decide (v x < b)) N
      have e1 : cnt (fun x => (decide (v x < b + 1) && P (v x) && Z x) && decide (v x < b)) N = cnt (fun x => decide (v x < b) && P (v x) && Z x) N := cnt_congr fun x _ => by
        by_cases e : v x < b
        · have : v x < b + 1 := by omega
          simp [e, this]
        · simp [e]
      have e2 : cnt (fun x => (decide (v x < b + 1) && P (v x) && Z x) && !decide (v x < b)) N % 2 = 0 := by
        by_cases hP : P b = true
        · have : cnt (fun x => (decide (v x < b + 1) && P (v x) && Z x) && !decide (v x < b)) N = cnt (fun x => decide (v x = b) && Z x) N := cnt_congr fun x _ => by
            by_cases e : v x = b
            · simp [e, hP]
            · by_cases g : v x < b
              · simp [g, e]
              · have : ¬ v x < b + 1 := by omega
                simp [this, e]
          rw [this]
          exact h b (by omega) hP
        · have : cnt (fun x => (decide (v x < b + 1) && P (v x) && Z x) && !decide (v x < b)) N = cnt (fun _ => false) N := cnt_congr fun x _ => by
            by_cases e : v x = b
            · have hP' : P b = false := by simpa using hP
              simp [e, hP']
            · by_cases g : v x < b
              · simp [g]
              · have : ¬ v x < b + 1 := by omega
                simp [this]
          rw [this]
          have h0 : ∀ n, cnt (fun _ => false) n = 0 := by
            intro n
            induction n with
            | zero => rfl
            | succ n ih => rw [cnt_succ, ih]; simp
          rw [h0]
      rw [hs, e1]; omega
  have := key B (Nat.le_refl _)
  have e : cnt (fun x => decide (v x < B) && P (v x) && Z x) N = cnt (fun x => P (v x) && Z x) N := cnt_congr fun x hx => by
    simp [hv x hx]
  rw [e] at this
  exact this
section
variable (m v : Nat → Nat) (E : Nat → Bool)
/-- The class of a node behind the steps below k. -/
def labn : Nat → Nat → Nat
  | 0, y => y
  | k + 1, y => if E k = true ∧ labn k (v k) ≠ labn k (v (m k)) ∧ labn k y = labn k (v k) then labn k (v (m k)) else labn k y
/-- Step k joins two classes. -/
def isTree (k : Nat) : Bool := E k && decide (labn m v E k (v k) ≠ labn m v E k (v (m k)))
variable {m v : Nat → Nat} {E : Nat → Bool}
theorem labn_succ (k y : Nat) : labn m v E (k + 1) y = if isTree m v E k = true ∧ labn m v E k y = labn m v E k (v k) then labn m v E k (v (m k)) else labn m v E k y := by
  rw [labn]
  unfold isTree
  simp only [Bool.and_eq_true, decide_eq_true_eq, and_assoc]
/-- What is joined stays joined. -/
theorem labn_keep {k y z : Nat} (h : labn m v E k y = labn m v E k z) : ∀ j, labn m v E (k + j) y = labn m v E (k + j) z
  | 0 => h
  | j + 1 => by
    rw [← Nat.add_assoc, labn_succ, labn_succ, labn_keep h j]
theorem labn_mono {k l y z : Nat} (hk : k ≤ l) (h : labn m v E k y = labn m v E k z) : labn m v E l y = labn m v E l z := by
  have := labn_keep h (l - k)
  rwa [show k + (l - k) = l from by omega] at this
/-- Behind its step an allowed edge's ends are joined. -/
theorem labn_joined {k : Nat} (hE : E k = true) : labn m v E (k + 1) (v k) = labn m v E (k + 1) (v (m k)) := by
  rw [labn_succ, labn_succ]
  by_cases ht : isTree m v E k = true
  · rw [if_pos ⟨ht, rfl⟩]
    split <;> rfl
  · rw [if_neg (fun h => ht h.1), if_neg (fun h => ht h.1)]
    unfold isTree at ht
    rw [hE, Bool.true_and, decide_eq_true_eq] at ht
    exact Classical.not_not.1 ht
theorem isTree_E {k : Nat} (h : isTree m v E k = true) : E k = true := by
  unfold isTree at h
  rw [Bool.and_eq_true] at h
  exact h.1
theorem isTree_ne {k : Nat} (h : isTree m v E k = true) : labn m v E k (v k) ≠ labn m v E k (v (m k)) := by
  unfold isTree at h
  rw [Bool.and_eq_true, decide_eq_true_eq] at h
  exact h.2
/-- A set of tree edges that is even at each node is empty. -/
theorem forest_empty {N B : Nat} {Z : Nat → Bool} (hZ : ∀ x, x < N → Z x = true → m x < N ∧ Z (m x) = true ∧ m (m x) = x ∧ m x ≠ x)
    (hT : ∀ x, x < N → Z x = true → isTree m v E x = true ∨ isTree m v E (m x) = true) (hv : ∀ x, x < N → v x < B)
    (hev : ∀ y, y < B → cnt (fun x => decide (v x = y) && Z x) N % 2 = 0) : ∀ x, x < N → Z x = false := by
  have key : ∀ j, j ≤ N → ∀ x, x < N → Z x = true → (isTree m v E x = true ∧ x < N - j) ∨ (isTree m v E (m x) = true ∧ m x < N - j) := by
    intro j
    induction j with
    | zero =>
      intro _ x hx hz
      rcases hT x hx hz with h | h
      · exact .inl ⟨h, by omega⟩
      · exact .inr ⟨h, by have := (hZ x hx hz).1; omega⟩
    | succ j ih =>
      intro hj
      have ih := ih (by omega)
      obtain ⟨k, hk⟩ : ∃ k, N - j = k + 1 := ⟨N - j - 1, by omega⟩
      have hk2 : N - (j + 1) = k := by omega
      rw [hk] at ih
      rw [hk2]
      have hkN : k < N := by omega
      have hno : ¬ (Z k = true ∧ isTree m v E k = true) := by
        rintro ⟨hz, ht⟩
        have hne := isTree_ne ht
        have hS0 : cnt (fun x => decide (labn m v E k (v x) = labn m v E k (v k)) && Z x) N % 2 = 0 :=
          cnt_fibres v (fun y => decide (labn m v E k y = labn m v E k (v k))) B hv (fun y hy _ => hev y hy)
        have hk1 : (decide (labn m v E k (v k) = labn m v E k (v k)) && Z k) = true := by rw [hz]; simp
        have hrm := cnt_remove (p := fun x => decide (labn m v E k (v x) = labn m v E k (v k)) && Z x) hkN hk1
        have hS1 : cnt (fun x => (decide (labn m v E k (v x) = labn m v E k (v k)) && Z x) && decide (x ≠ k)) N % 2 = 0 := by
          refine cnt_even m fun x hx hp => ?_
          simp only [Bool.and_eq_true, decide_eq_true_eq] at hp
          obtain ⟨⟨h1, h2⟩, h3⟩ := hp
          obtain ⟨g1, g2, g3, g4⟩ := hZ x hx h2
          have hmk : m x ≠ k := by
            intro e
            have hmk' : m k = x := by rw [← e]; exact g3
            rw [hmk'] at hne
            exact hne h1.symm
          have hsame : labn m v E k (v x) = labn m v E k (v (m x)) := by
            rcases ih x hx h2 with ⟨t1, t2⟩ | ⟨t1, t2⟩
            · exact labn_mono (k := x + 1) (by omega) (labn_joined (isTree_E t1))
            · have := labn_mono (m := m) (v := v) (E := E) (l := k) (k := m x + 1) (y := v (m x)) (z := v (m (m x))) (by omega) (labn_joined (isTree_E t1))
              rw [g3] at this
              exact this.symm
          refine ⟨g1, ?_, g3, g4⟩
          simp only [Bool.and_eq_true, decide_eq_true_eq]
          exact ⟨⟨by rw [← hsame]; exact h1, g2⟩, hmk⟩
        omega
      intro x hx hz
      rcases ih x hx hz with ⟨t1, t2⟩ | ⟨t1, t2⟩
      · refine .inl ⟨t1, ?_⟩
        have : x ≠ k := fun e => hno (by rw [← e]; exact ⟨hz, t1⟩)
        omega
      · refine .inr ⟨t1, ?_⟩
        have : m x ≠ k := fun e => hno (by rw [← e]; exact ⟨(hZ x hx hz).2.1, t1⟩)
        omega
  intro x hx
  cases hz : Z x
  · rfl
  · rcases key N (Nat.le_refl _) x hx hz with ⟨_, h⟩ | ⟨_, h⟩ <;> omega
theorem labn_idem : ∀ (k y : Nat), labn m v E k (labn m v E k y) = labn m v E k y
  | 0, _ => rfl
  | k + 1, y => by
    have ih := labn_idem k
    by_cases ht : isTree m v E k = true
    · have hne := isTree_ne ht
      rw [labn_succ k y]
      by_cases h : labn m v E k y = labn m v E k (v k)
      · rw [if_pos ⟨ht, h⟩, labn_succ, ih, if_neg (fun h => hne h.2.symm)]
      · rw [if_neg (fun g => h g.2), labn_succ, ih, if_neg (fun g => h g.2)]
    · rw [labn_succ k y, if_neg (fun g => ht g.1), labn_succ, if_neg (fun g => ht g.1), ih]
theorem labn_in {W : Nat → Bool} {N : Nat} (hW : ∀ k, k < N → E k = true → W (v k) = true ∧ W (v (m k)) = true) (y : Nat) (hy : W y = true) : ∀ k, k ≤ N → W (labn m v E k y) = true
  | 0, _ => hy
  | k + 1, hk => by
    have ih : ∀ z, W z = true → W (labn m v E k z) = true := fun z hz => labn_in hW z hz k (by omega)
    rw [labn_succ]
    by_cases h : isTree m v E k = true ∧ labn m v E k y = labn m v E k (v k)
    · rw [if_pos h]
      exact ih _ (hW k (by omega) (isTree_E h.1)).2
    · rw [if_neg h]; exact ih y hy
/-- Each tree step takes one root. -/
theorem roots_count {W : Nat → Bool} {N B : Nat} (hW : ∀ k, k < N → E k = true → W (v k) = true ∧ W (v (m k)) = true) (hB : ∀ y, W y = true → y < B) : ∀ k, k ≤ N → cnt (fun y => W y && decide (labn m v E k y = y)) B + cnt (isTree m v E) k = cnt W B
  | 0, _ => by
    rw [cnt_zero, Nat.add_zero]
    exact cnt_congr fun y _ => by simp [labn]
  | k + 1, hk => by
    have ih := roots_count hW hB k (by omega)
    rw [cnt_succ]
    by_cases ht : isTree m v E k = true
    · rw [if_pos ht]
      have hne := isTree_ne ht
      have hWa : W (labn m v E k (v k)) = true := labn_in hW _ (hW k (by omega) (isTree_E ht)).1 k (by omega)
      have hrm := cnt_remove (p := fun y => W y && decide (labn m v E k y = y)) (hB _ hWa) (by
        simp only [Bool.and_eq_true, decide_eq_true_eq]; exact ⟨hWa, labn_idem k _⟩)
      have e : cnt (fun y => W y && decide (labn m v E (k + 1) y = y)) B = cnt (fun y => (W y && decide (labn m v E k y = y)) && decide (y ≠ labn m v E k (v k))) B := cnt_congr fun y _ => by
        rw [Bool.and_assoc]
        congr 1
        rw [Bool.eq_iff_iff]
        simp only [Bool.and_eq_true, decide_eq_true_eq]
        rw [labn_succ]
        constructor
        · intro h
          by_cases g : labn m v E k y = labn m v E k (v k)
          · rw [if_pos ⟨ht, g⟩] at h
            rw [← h, labn_idem] at g
            exact absurd g.symm hne
          · rw [if_neg (fun h => g h.2)] at h
            exact ⟨h, fun e => g (by rw [h]; exact e)⟩
        · rintro ⟨h1, h2⟩
          rw [if_neg (fun g => h2 (by rw [← g.2]; exact h1.symm))]
          exact h1
      rw [e]; omega
    · rw [if_neg ht]
      have e : cnt (fun y => W y && decide (labn m v E (k + 1) y = y)) B = cnt (fun y => W y && decide (labn m v E k y = y)) B := cnt_congr fun y _ => by
        rw [labn_succ, if_neg (fun g => ht g.1)]
      rw [e]; omega
end
theorem foldl_min_spec : ∀ (l : List Nat) (x : Nat), l.foldl min x ≤ x ∧ (∀ y ∈ l, l.foldl min x ≤ y) ∧ (l.foldl min x = x ∨ l.foldl min x ∈ l)
  | [], x => ⟨Nat.le_refl _, fun y hy => by simp at hy, .inl rfl⟩
  | a :: l, x => by
    obtain ⟨h1, h2, h3⟩ := foldl_min_spec l (min x a)
    rw [List.foldl_cons]
    refine ⟨by omega, fun y hy => ?_, ?_⟩
    · rw [List.mem_cons] at hy
      rcases hy with rfl | hy
      · omega
      · exact h2 y hy
    · rcases h3 with h | h
      · rcases Nat.le_total x a with g | g
        · left; rw [h]; omega
        · right; rw [h, Nat.min_eq_right g]; exact List.mem_cons_self
      · right; exact List.mem_cons_of_mem _ h
theorem cnt_xor (p a b : Nat → Bool) (N : Nat) : cnt (fun x => p x && (a x ^^ b x)) N + 2 * cnt (fun x => p x && a x && b x) N = cnt (fun x => p x && a x) N + cnt (fun x => p x && b x) N := by
  induction N with
  | zero => rfl
  | succ N ih =>
    rw [cnt_succ, cnt_succ, cnt_succ, cnt_succ]
    cases p N <;> cases a N <;> cases b N <;> simp <;> omega
/-- The least of the orbit of x. -/
def fl (f per : Nat → Nat) (x : Nat) : Nat := (orb f x (per x)).foldl min x
section
variable {f per : Nat → Nat} {N : Nat} (hf : Inj f N) (hp : ∀ x, x < N → IsPer f x (per x))
include hf hp
omit hf in
theorem fl_spec {x : Nat} (hx : x < N) : OnOrb f x (fl f per x) ∧ ∀ y, OnOrb f x y → fl f per x ≤ y := by
  obtain ⟨h1, h2, h3⟩ := foldl_min_spec (orb f x (per x)) x
  refine ⟨?_, fun y hy => h2 y ((mem_orb (hp x hx)).2 hy)⟩
  rcases h3 with h | h
  · unfold fl; rw [h]; exact onOrb_refl f x
  · exact (mem_orb (hp x hx)).1 h
theorem fl_lt {x : Nat} (hx : x < N) : fl f per x < N := onOrb_lt hf hx (fl_spec hp hx).1
theorem fl_eq {x y : Nat} (hx : x < N) (ho : OnOrb f x y) : fl f per y = fl f per x := by
  have hy := onOrb_lt hf hx ho
  obtain ⟨h1, h2⟩ := fl_spec hp hx
  obtain ⟨k1, k2⟩ := fl_spec hp hy
  have a := h2 _ (onOrb_trans ho k1)
  have b := k2 _ (onOrb_trans (onOrb_symm hf hx ho) h1)
  omega
theorem fl_idem {x : Nat} (hx : x < N) : fl f per (fl f per x) = fl f per x := fl_eq hf hp hx (fl_spec hp hx).1
theorem fl_step {x : Nat} (hx : x < N) : fl f per (f x) = fl f per x := fl_eq hf hp hx ⟨1, rfl⟩
theorem fl_least {x : Nat} (hx : x < N) : leastB f per x = true ↔ fl f per x = x := by
  rw [leastB_iff hf hp hx]
  obtain ⟨h1, h2⟩ := fl_spec hp hx
  constructor
  · intro h
    have h3 := h2 x (onOrb_refl f x)
    rcases Nat.lt_or_ge (fl f per x) x with g | g
    · exact absurd (onOrb_symm hf hx h1) (h _ g)
    · omega
  · intro h y hy ho
    have hyN : y < N := by omega
    have := h2 y (onOrb_symm hf hyN ho)
    omega
/-- An orbit's steps in and out of a set are as many. -/
theorem orbit_even {x : Nat} (Q : Nat → Bool) : cnt (fun y => decide (fl f per y = x) && (Q y ^^ Q (f y))) N % 2 = 0 := by
  have h1 : cnt (fun y => decide (fl f per y = x) && Q (f y)) N = cnt (fun y => decide (fl f per y = x) && Q y) N := by
    refine Nat.le_antisymm ?_ ?_
    · refine cnt_inj f (fun y hy hpy => ?_) (fun a b ha hb _ _ he => hf.inj a b ha hb he)
      simp only [Bool.and_eq_true, decide_eq_true_eq] at hpy ⊢
      exact ⟨hf.lt y hy, by rw [fl_step hf hp hy]; exact hpy.1, hpy.2⟩
    · refine cnt_inj (fun y => iter f (per y - 1) y) (fun y hy hpy => ?_) (fun a b ha hb' _ _ he => ?_)
      · simp only [Bool.and_eq_true, decide_eq_true_eq] at hpy ⊢
        have hpp := hp y hy
        have hb : f (iter f (per y - 1) y) = y := by
          have := hpp.2.1
          rw [show per y = (per y - 1) + 1 from by have := hpp.1; omega, iter_succ] at this
          exact this
        exact ⟨iter_lt f N hf.lt _ _ hy, by rw [fl_eq hf hp hy ⟨_, rfl⟩]; exact hpy.1, by rw [hb]; exact hpy.2⟩
      · have hb : ∀ y, y < N → f (iter f (per y - 1) y) = y := fun y hy => by
          have hpp := hp y hy
          have := hpp.2.1
          rw [show per y = (per y - 1) + 1 from by have := hpp.1; omega, iter_succ] at this
          exact this
        rw [← hb a ha, he, hb b hb']
  have h2 := cnt_xor (fun y => decide (fl f per y = x)) Q (fun y => Q (f y)) N
  omega
end
/-- The mate. -/
def mt (M : List Int) (x : Nat) : Nat := (nth M x).toNat
/-- The face to the left of x, by its least half-edge. -/
def lf (M : List Int) (n x : Nat) : Nat := fl (fc M) (perOf (fc M) (4 * n)) x
theorem cnt_mono {p q : Nat → Bool} {N : Nat} (h : ∀ x, x < N → p x = true → q x = true) : cnt p N ≤ cnt q N :=
  cnt_inj id (fun x hx hp => ⟨hx, h x hx hp⟩) (fun _ _ _ _ _ _ he => he)
theorem cnt_or {p q : Nat → Bool} {N : Nat} (h : ∀ x, x < N → ¬ (p x = true ∧ q x = true)) : cnt (fun x => p x || q x) N = cnt p N + cnt q N := by
  induction N with
  | zero => rfl
  | succ N ih =>
    have ih := ih fun x hx => h x (by omega)
    have := h N (by omega)
    rw [cnt_succ, cnt_succ, cnt_succ, ih]
    cases hp : p N <;> cases hq : q N <;> simp_all <;> omega
theorem cnt_one {p : Nat → Bool} {N : Nat} (h : ∀ x y, x < N → y < N → p x = true → p y = true → x = y) : cnt p N ≤ 1 := by
  have := cnt_inj (p := p) (N := N) (fun _ => 0) (M := 1) (q := fun _ => true) (fun x hx hp => ⟨by omega, rfl⟩) (fun x y hx hy hp hq _ => h x y hx hy hp hq)
  have h2 := cnt_le (fun _ => true) 1
  omega
/-- Each crossing has four half-edges. -/
theorem cnt_four (Q : Nat → Bool) (n : Nat) : cnt (fun x => Q (x / 4)) (4 * n) = 4 * cnt Q n := by
  induction n with
  | zero => rfl
  | succ n ih =>
    rw [show 4 * (n + 1) = 4 * n + 1 + 1 + 1 + 1 from by omega, cnt_succ, cnt_succ, cnt_succ, cnt_succ, ih, cnt_succ]
    have h1 : (4 * n) / 4 = n := by omega
    have h2 : (4 * n + 1) / 4 = n := by omega
    have h3 : (4 * n + 1 + 1) / 4 = n := by omega
    have h4 : (4 * n + 1 + 1 + 1) / 4 = n := by omega
    rw [h1, h2, h3, h4]
    split <;> omega
theorem tn_back (x : Nat) : tn (tn x (-1)) 1 = x := by
  have h1 := tn_div x (-1)
  have h2 := tn_mod x (-1)
  unfold tn at *
  omega
theorem tn_back' (x : Nat) : tn (tn x 1) (-1) = x := by
  have h1 := tn_div x 1
  have h2 := tn_mod x 1
  unfold tn at *
  omega
/-- Mates in order, none its own. -/
structure Mates (M : List Int) (n : Nat) : Prop where
  ok : MateOk M n
  ne : ∀ x, x < 4 * n → mt M x ≠ x
theorem Shape.mates2 {S M : List Int} {L : Int} (hs : Shape S M L) : Mates M S.length := ⟨hs.mates, fun x hx e => by
  have h1 := (hs.mate x hx).2.2.1
  have h2 := hs.range x hx
  unfold mt at e
  omega⟩
namespace Mates
variable {M : List Int} {n : Nat} (hm : Mates M n)
include hm
theorem lt {x : Nat} (hx : x < 4 * n) : mt M x < 4 * n := by have := hm.ok.lt x hx; unfold mt; omega
theorem inv {x : Nat} (hx : x < 4 * n) : mt M (mt M x) = x := by
  have h1 := hm.ok.inv x hx
  have : nth M (mt M x) = (x : Int) := h1
  unfold mt at *
  rw [this]; rfl
omit hm in
theorem adj {x : Nat} : Adj M (x / 4) (mt M x / 4) := ⟨x % 4, by omega, by rw [show 4 * (x / 4) + x % 4 = x from by omega]; rfl⟩
theorem conn {c x : Nat} (hx : x < 4 * n) : Conn M c (x / 4) ↔ Conn M c (mt M x / 4) := by
  refine ⟨fun h => h.step adj, fun h => h.step ?_⟩
  have := adj (M := M) (x := mt M x)
  rwa [hm.inv hx] at this
theorem inj : Inj (fc M) (4 * n) := hm.ok.injF
theorem per : ∀ x, x < 4 * n → IsPer (fc M) x (perOf (fc M) (4 * n) x) := perOf_all hm.inj
theorem face_mt {x : Nat} (hx : x < 4 * n) : lf M n (mt M x) = lf M n (tn x (-1)) := by
  have h1 := fl_step hm.inj hm.per (hm.lt hx)
  have h2 : fc M (mt M x) = tn x (-1) := by
    show tn (nth M (mt M x)).toNat (-1) = _
    have := hm.inv hx
    unfold mt at this ⊢
    rw [this]
  rw [h2] at h1
  exact h1.symm
theorem face_lt {x : Nat} (hx : x < 4 * n) : lf M n x < 4 * n := fl_lt hm.inj hm.per hx
/-- The step along a face stays in the part. -/
theorem conn_fc {c x : Nat} (hx : x < 4 * n) : Conn M c (fc M x / 4) ↔ Conn M c (x / 4) := by
  have : fc M x / 4 = mt M x / 4 := tn_div _ _
  rw [this]; exact (hm.conn hx).symm
theorem conn_orb {c x y : Nat} (hx : x < 4 * n) (ho : OnOrb (fc M) x y) : Conn M c (y / 4) ↔ Conn M c (x / 4) := by
  obtain ⟨j, rfl⟩ := ho
  induction j with
  | zero => exact Iff.rfl
  | succ j ih => rw [iter_succ, hm.conn_fc (iter_lt _ _ hm.inj.lt j x hx), ih]
theorem conn_face {c x : Nat} (hx : x < 4 * n) : Conn M c (lf M n x / 4) ↔ Conn M c (x / 4) := hm.conn_orb hx (fl_spec hm.per hx).1
end Mates
open Classical in
/-- The half-edges of the part of c. -/
noncomputable def UU (M : List Int) (c x : Nat) : Bool := decide (Conn M c (x / 4))
open Classical in
theorem UU_iff {M : List Int} {c x : Nat} : UU M c x = true ↔ Conn M c (x / 4) := by unfold UU; exact decide_eq_true_iff
section
variable {M : List Int} {n c0 : Nat} (hm : Mates M n)
include hm
theorem UU_mt {x : Nat} (hx : x < 4 * n) : UU M c0 (mt M x) = UU M c0 x := by
  rw [Bool.eq_iff_iff, UU_iff, UU_iff]; exact (hm.conn hx).symm
/-- Both halves of a greedy forest's edges. -/
theorem halves {v : Nat → Nat} {E : Nat → Bool} : cnt (fun x => isTree (mt M) v E x || isTree (mt M) v E (mt M x)) (4 * n) = 2 * cnt (isTree (mt M) v E) (4 * n) := by
  rw [cnt_or fun x hx => ?_]
  · have h1 : cnt (fun x => isTree (mt M) v E (mt M x)) (4 * n) = cnt (isTree (mt M) v E) (4 * n) := by
      refine Nat.le_antisymm ?_ ?_
      · exact cnt_inj (mt M) (fun x hx hp => ⟨hm.lt hx, hp⟩) (fun x y hx hy _ _ he => by rw [← hm.inv hx, he, hm.inv hy])
      · exact cnt_inj (mt M) (fun x hx hp => ⟨hm.lt hx, by rw [hm.inv hx]; exact hp⟩) (fun x y hx hy _ _ he => by rw [← hm.inv hx, he, hm.inv hy])
    rw [h1]; omega
  · rintro ⟨h1, h2⟩
    have key : ∀ x, x < 4 * n → isTree (mt M) v E x = true → isTree (mt M) v E (mt M x) = true → x < mt M x → False := by
      intro x hx h1 h2 hlt
      have h3 := labn_mono (m := mt M) (v := v) (E := E) (l := mt M x) (k := x + 1) (y := v x) (z := v (mt M x)) (by omega) (labn_joined (isTree_E h1))
      have h4 := isTree_ne h2
      rw [hm.inv hx] at h4
      exact h4 h3.symm
    have hne := hm.ne x hx
    rcases Nat.lt_or_ge x (mt M x) with g | g
    · exact key x hx h1 h2 g
    · exact key (mt M x) (hm.lt hx) h2 (by rw [hm.inv hx]; exact h1) (by rw [hm.inv hx]; omega)
end
section
variable {M : List Int} {n c0 : Nat} (hm : Mates M n)
include hm
/-- A label that is the same along edges and around crossings is the same all over the part. -/
theorem part_const (hc0 : c0 < n) (g : Nat → Nat) (h1 : ∀ x, x < 4 * n → UU M c0 x = true → g x = g (mt M x)) (h2 : ∀ x, x < 4 * n → UU M c0 x = true → g x = g (tn x (-1))) :
    ∀ x, x < 4 * n → UU M c0 x = true → g x = g (4 * c0) := by
  have around : ∀ c s, c < n → Conn M c0 c → s < 4 → g (4 * c + s) = g (4 * c) := by
    intro c s hc hcc hs
    have hu : ∀ s, s < 4 → UU M c0 (4 * c + s) = true := fun s hs => UU_iff.2 (by rw [show (4 * c + s) / 4 = c from by omega]; exact hcc)
    have a1 := h2 (4 * c + 1) (by omega) (hu 1 (by omega))
    have a2 := h2 (4 * c + 2) (by omega) (hu 2 (by omega))
    have a3 := h2 (4 * c + 3) (by omega) (hu 3 (by omega))
    rw [show tn (4 * c + 1) (-1) = 4 * c from by unfold tn; omega] at a1
    rw [show tn (4 * c + 2) (-1) = 4 * c + 1 from by unfold tn; omega] at a2
    rw [show tn (4 * c + 3) (-1) = 4 * c + 2 from by unfold tn; omega] at a3
    have : s = 0 ∨ s = 1 ∨ s = 2 ∨ s = 3 := by omega
    rcases this with rfl | rfl | rfl | rfl
    · rfl
    · exact a1
    · rw [a2, a1]
    · rw [a3, a2, a1]
  have all : ∀ c, Conn M c0 c → c < n ∧ Conn M c0 c ∧ g (4 * c) = g (4 * c0) := by
    intro c hc
    refine hc (fun c => c < n ∧ Conn M c0 c ∧ g (4 * c) = g (4 * c0)) ⟨hc0, Conn.refl M c0, rfl⟩ ?_
    rintro a b ⟨k1, k2, k3⟩ hab
    refine ⟨hm.ok.adj_lt k1 hab, k2.step hab, ?_⟩
    obtain ⟨s, hs, he⟩ := hab
    have hx : 4 * a + s < 4 * n := by omega
    have hu : UU M c0 (4 * a + s) = true := UU_iff.2 (by rw [show (4 * a + s) / 4 = a from by omega]; exact k2)
    have e1 := h1 _ hx hu
    have e2 := around a s k1 k2 hs
    have hb : mt M (4 * a + s) / 4 = b := he
    have hlt := hm.lt hx
    have e3 := around b (mt M (4 * a + s) % 4) (by omega) (k2.step ⟨s, hs, he⟩) (by omega)
    rw [show 4 * b + mt M (4 * a + s) % 4 = mt M (4 * a + s) from by omega] at e3
    rw [← e3, ← e1, e2, k3]
  intro x hx hu
  rw [UU_iff] at hu
  have h3 := around (x / 4) (x % 4) (by omega) hu (by omega)
  rw [show 4 * (x / 4) + x % 4 = x from by omega] at h3
  rw [h3, (all _ hu).2.2]
/-- The dual forest has at least as many edges as there are faces, less one. -/
theorem dual_count (hc0 : c0 < n) : FC M n c0 ≤ cnt (isTree (mt M) (lf M n) (UU M c0)) (4 * n) + 1 := by
  have hr := roots_count (m := mt M) (v := lf M n) (E := UU M c0) (W := fun y => decide (y < 4 * n) && UU M c0 y && decide (lf M n y = y)) (N := 4 * n) (B := 4 * n) (fun k hk hE => by
    have f1 : ∀ z, z < 4 * n → UU M c0 z = true → (decide (lf M n z < 4 * n) && UU M c0 (lf M n z) && decide (lf M n (lf M n z) = lf M n z)) = true := fun z hz hu => by
      simp only [Bool.and_eq_true, decide_eq_true_eq]
      exact ⟨⟨hm.face_lt hz, UU_iff.2 ((hm.conn_face hz).2 (UU_iff.1 hu))⟩, fl_idem hm.inj hm.per hz⟩
    exact ⟨f1 k hk hE, f1 _ (hm.lt hk) (by rw [UU_mt hm hk]; exact hE)⟩) (fun y hy => by
    simp only [Bool.and_eq_true, decide_eq_true_eq] at hy; exact hy.1.1) (4 * n) (Nat.le_refl _)
  have hF : cnt (fun y => decide (y < 4 * n) && UU M c0 y && decide (lf M n y = y)) (4 * n) = FC M n c0 := by
    show _ = cnt _ _
    refine cnt_congr fun y hy => ?_
    rw [Bool.eq_iff_iff]
    simp only [Bool.and_eq_true, decide_eq_true_eq]
    rw [fl_least hm.inj hm.per hy, UU_iff]
    exact ⟨fun h => ⟨h.2, h.1.2⟩, fun h => ⟨⟨hy, h.2⟩, h.1⟩⟩
  have hconst := part_const hm hc0 (fun x => labn (mt M) (lf M n) (UU M c0) (4 * n) (lf M n x))
    (fun x hx hu => labn_mono (k := x + 1) (by omega) (labn_joined hu))
    (fun x hx hu => by rw [← hm.face_mt hx]; exact labn_mono (k := x + 1) (by omega) (labn_joined hu))
  have h1 := cnt_one (N := 4 * n) (p := fun y => (decide (y < 4 * n) && UU M c0 y && decide (lf M n y = y)) && decide (labn (mt M) (lf M n) (UU M c0) (4 * n) y = y)) (fun x y hx hy hp hq => by
    simp only [Bool.and_eq_true, decide_eq_true_eq] at hp hq
    have a := hconst x hx hp.1.1.2
    have b := hconst y hy hq.1.1.2
    rw [hp.1.2, hp.2] at a
    rw [hq.1.2, hq.2] at b
    rw [a, b])
  omega
end
/-- The edges of the dual forest, by both halves. -/
noncomputable def DD (M : List Int) (n c0 x : Nat) : Bool := isTree (mt M) (lf M n) (UU M c0) x || isTree (mt M) (lf M n) (UU M c0) (mt M x)
/-- .. the others. -/
noncomputable def EE (M : List Int) (n c0 x : Nat) : Bool := UU M c0 x && !DD M n c0 x
section
variable {M : List Int} {n c0 : Nat} (hm : Mates M n)
include hm
theorem UU_fc {x : Nat} (hx : x < 4 * n) : UU M c0 (fc M x) = UU M c0 x := by
  rw [Bool.eq_iff_iff, UU_iff, UU_iff]; exact hm.conn_fc hx
theorem primal_joined (x0 : Nat) (hx0 : x0 < 4 * n) (hu0 : UU M c0 x0 = true) : labn (mt M) (fun x => x / 4) (EE M n c0) (4 * n) (x0 / 4) = labn (mt M) (fun x => x / 4) (EE M n c0) (4 * n) (mt M x0 / 4) := by
  have hemp := forest_empty (m := mt M) (v := lf M n) (E := UU M c0) (N := 4 * n) (B := 4 * n)
    (Z := fun x => UU M c0 x && (decide (labn (mt M) (fun x => x / 4) (EE M n c0) (4 * n) (x / 4) = labn (mt M) (fun x => x / 4) (EE M n c0) (4 * n) (x0 / 4)) ^^ decide (labn (mt M) (fun x => x / 4) (EE M n c0) (4 * n) (mt M x / 4) = labn (mt M) (fun x => x / 4) (EE M n c0) (4 * n) (x0 / 4))))
    (fun x hx hz => ⟨hm.lt hx, by
      rw [UU_mt hm hx, hm.inv hx, Bool.xor_comm]; exact hz, hm.inv hx, hm.ne x hx⟩)
    (fun x hx hz => by
      simp only [Bool.and_eq_true] at hz
      have hne : ¬ EE M n c0 x = true := fun hE => by
        have h1 := labn_mono (m := mt M) (v := fun x => x / 4) (E := EE M n c0) (l := 4 * n) (k := x + 1) (y := x / 4) (z := mt M x / 4) (by omega) (labn_joined hE)
        rw [h1] at hz
        simp at hz
      unfold EE at hne
      rw [hz.1, Bool.true_and, Bool.not_eq_true'] at hne
      have : DD M n c0 x = true := by simpa using hne
      unfold DD at this
      rwa [Bool.or_eq_true] at this)
    (fun x hx => hm.face_lt hx)
    (fun y hy => by
      have h1 := orbit_even hm.inj hm.per (x := y) (fun x => UU M c0 x && decide (labn (mt M) (fun x => x / 4) (EE M n c0) (4 * n) (x / 4) = labn (mt M) (fun x => x / 4) (EE M n c0) (4 * n) (x0 / 4)))
      have e : cnt (fun x => decide (lf M n x = y) && (UU M c0 x && (decide (labn (mt M) (fun x => x / 4) (EE M n c0) (4 * n) (x / 4) = labn (mt M) (fun x => x / 4) (EE M n c0) (4 * n) (x0 / 4)) ^^ decide (labn (mt M) (fun x => x / 4) (EE M n c0) (4 * n) (mt M x / 4) = labn (mt M) (fun x => x / 4) (EE M n c0) (4 * n) (x0 / 4))))) (4 * n) = cnt (fun z => decide (fl (fc M) (perOf (fc M) (4 * n)) z = y) && ((UU M c0 z && decide (labn (mt M) (fun x => x / 4) (EE M n c0) (4 * n) (z / 4) = labn (mt M) (fun x => x / 4) (EE M n c0) (4 * n) (x0 / 4))) ^^ (UU M c0 (fc M z) && decide (labn (mt M) (fun x => x / 4) (EE M n c0) (4 * n) (fc M z / 4) = labn (mt M) (fun x => x / 4) (EE M n c0) (4 * n) (x0 / 4))))) (4 * n) := cnt_congr fun x hx => by
        have hd : fc M x / 4 = mt M x / 4 := tn_div _ _
        rw [UU_fc hm hx, hd]
        show (decide (lf M n x = y) && _) = (decide (lf M n x = y) && _)
        cases UU M c0 x <;> simp
      rw [e]; exact h1) x0 hx0
  rw [hu0, Bool.true_and] at hemp
  refine Classical.byContradiction fun hn => ?_
  rw [decide_eq_true rfl, decide_eq_false (fun h => hn h.symm)] at hemp
  exact absurd hemp (by decide)
end
section
variable {M : List Int} {n c0 : Nat} (hm : Mates M n)
include hm
open Classical in
/-- The primal forest has at least as many edges as there are crossings, less one. -/
theorem primal_count (hc0 : c0 < n) : VC M n c0 ≤ cnt (isTree (mt M) (fun x => x / 4) (EE M n c0)) (4 * n) + 1 := by
  have hU : ∀ k, EE M n c0 k = true → UU M c0 k = true := fun k h => by
    unfold EE at h; rw [Bool.and_eq_true] at h; exact h.1
  have hr := roots_count (m := mt M) (v := fun x => x / 4) (E := EE M n c0) (W := fun c => decide (c < n) && decide (Conn M c0 c)) (N := 4 * n) (B := n) (fun k hk hE => by
    have hu := UU_iff.1 (hU k hE)
    have hlt := hm.lt hk
    simp only [Bool.and_eq_true, decide_eq_true_eq]
    exact ⟨⟨by omega, hu⟩, ⟨by omega, (hm.conn hk).1 hu⟩⟩) (fun y hy => by
    simp only [Bool.and_eq_true, decide_eq_true_eq] at hy; exact hy.1) (4 * n) (Nat.le_refl _)
  have hV : cnt (fun c => decide (c < n) && decide (Conn M c0 c)) n = VC M n c0 := by
    show _ = cnt _ _
    refine cnt_congr fun y hy => ?_
    rw [decide_eq_true hy, Bool.true_and]
  have hconst := part_const hm hc0 (fun x => labn (mt M) (fun x => x / 4) (EE M n c0) (4 * n) (x / 4)) (fun x hx hu => primal_joined hm x hx hu) (fun x hx hu => by rw [tn_div])
  have h1 := cnt_one (N := n) (p := fun c => (decide (c < n) && decide (Conn M c0 c)) && decide (labn (mt M) (fun x => x / 4) (EE M n c0) (4 * n) c = c)) (fun x y hx hy hp hq => by
    simp only [Bool.and_eq_true, decide_eq_true_eq] at hp hq
    have a := hconst (4 * x) (by omega) (UU_iff.2 (by rw [show 4 * x / 4 = x from by omega]; exact hp.1.2))
    have b := hconst (4 * y) (by omega) (UU_iff.2 (by rw [show 4 * y / 4 = y from by omega]; exact hq.1.2))
    rw [show 4 * x / 4 = x from by omega, hp.2] at a
    rw [show 4 * y / 4 = y from by omega, hq.2] at b
    rw [a, b])
  omega
end
section
variable {M : List Int} {n c0 : Nat} (hm : Mates M n)
include hm
theorem DD_mt {x : Nat} (hx : x < 4 * n) : DD M n c0 (mt M x) = DD M n c0 x := by
  unfold DD; rw [hm.inv hx, Bool.or_comm]
theorem EE_mt {x : Nat} (hx : x < 4 * n) : EE M n c0 (mt M x) = EE M n c0 x := by
  unfold EE; rw [DD_mt hm hx, UU_mt hm hx]
theorem DD_UU {x : Nat} (hx : x < 4 * n) (h : DD M n c0 x = true) : UU M c0 x = true := by
  unfold DD at h
  rw [Bool.or_eq_true] at h
  rcases h with h | h
  · exact isTree_E h
  · rw [← UU_mt hm hx]; exact isTree_E h
end
end Go.Proofs.YtmhhjchnjaefhaaDoor


