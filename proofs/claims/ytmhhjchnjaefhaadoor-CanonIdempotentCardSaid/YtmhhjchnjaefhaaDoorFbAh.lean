/- Plain laws: splices of permutations, genus, smoothing a crossing. -/
import Derived.WalkKit
import Derived.WalkSpells
import Derived.WalkLawsBesides
import Derived.Deep.AppendSrc
import Derived.Deep.LoopGhost
import Derived.Deep.QuietTactic
import Derived.Deep.RegionWith
import Derived.Deep.DeepMust
import Derived.Deep.DeepFit
import Derived.BigQuiet
import Derived.Lib.Hide
import Derived.Outline
import Derived.Test.YtmhhjchnjaefhaaDoorProg
import Derived.Test.YtmhhjchnjaefhaaDoorFbAa
import Derived.Test.YtmhhjchnjaefhaaDoorFbAc
import Derived.Test.YtmhhjchnjaefhaaDoorFbAd
import Derived.Test.YtmhhjchnjaefhaaDoorFbAe
import Derived.Test.YtmhhjchnjaefhaaDoorFbAf
import Derived.Test.YtmhhjchnjaefhaaDoorFbAg
namespace Go.Proofs.YtmhhjchnjaefhaaDoor
open Go Go.RowKit
/-- f with the values at a and b exchanged. -/
def swp (f : Nat → Nat) (a b x : Nat) : Nat := if x = a then f b else if x = b then f a else f x
theorem swp_left (f : Nat → Nat) (a b : Nat) : swp f a b a = f b := if_pos rfl
theorem swp_right (f : Nat → Nat) (a b : Nat) : swp f a b b = f a := by
  unfold swp
  by_cases h : b = a
  · rw [if_pos h, h]
  · rw [if_neg h, if_pos rfl]
theorem swp_other (f : Nat → Nat) {a b x : Nat} (h1 : x ≠ a) (h2 : x ≠ b) : swp f a b x = f x := by unfold swp; rw [if_neg h1, if_neg h2]
theorem swp_swp (f : Nat → Nat) (a b : Nat) : swp (swp f a b) a b = f := by
  funext x
  by_cases h1 : x = a
  · rw [h1, swp_left, swp_right]
  · by_cases h2 : x = b
    · rw [h2, swp_right, swp_left]
    · rw [swp_other _ h1 h2, swp_other _ h1 h2]
theorem swp_inj {f : Nat → Nat} {N a b : Nat} (hf : Inj f N) (ha : a < N) (hb : b < N) : Inj (swp f a b) N := by
  refine ⟨fun x hx => ?_, fun x y hx hy he => ?_⟩
  · unfold swp
    split
    · exact hf.lt b hb
    · split
      · exact hf.lt a ha
      · exact hf.lt x hx
  · have h := hf.inj
    by_cases x1 : x = a
    · by_cases y1 : y = a
      · omega
      · rw [x1, swp_left] at he
        by_cases y2 : y = b
        · rw [y2, swp_right] at he
          have := h b a hb ha he
          omega
        · rw [swp_other _ y1 y2] at he
          exact absurd (h b y hb hy he).symm y2
    · by_cases x2 : x = b
      · rw [x2, swp_right] at he
        by_cases y1 : y = a
        · rw [y1, swp_left] at he
          have := h a b ha hb he
          omega
        · by_cases y2 : y = b
          · omega
          · rw [swp_other _ y1 y2] at he
            exact absurd (h a y ha hy he).symm y1
      · rw [swp_other _ x1 x2] at he
        by_cases y1 : y = a
        · rw [y1, swp_left] at he
          exact absurd (h x b hx hb he) x2
        · by_cases y2 : y = b
          · rw [y2, swp_right] at he
            exact absurd (h x a hx ha he) x1
          · rw [swp_other _ y1 y2] at he
            exact h x y hx hy he
section
variable {f : Nat → Nat} {N a b : Nat} (hf : Inj f N) (ha : a < N) (hb : b < N)
include hf ha hb
omit ha in
/-- Cycles that part become one. -/
theorem merge_ab (hno : ¬ OnOrb f a b) : OnOrb (swp f a b) a b := by
  have hp := perOf_all hf b hb
  have key : ∀ k, k + 1 ≤ perOf f N b → iter (swp f a b) (k + 1) a = iter f (k + 1) b := by
    intro k
    induction k with
    | zero => intro _; exact swp_left f a b
    | succ k ih =>
      intro hk
      rw [iter_succ, ih (by omega), iter_succ f (k + 1) b]
      refine swp_other f (fun e => ?_) (hp.2.2 (k + 1) (by omega) (by omega))
      exact hno (onOrb_symm hf hb ⟨_, e⟩)
  have h1 := hp.1
  refine ⟨perOf f N b, ?_⟩
  have h2 := key (perOf f N b - 1) (by omega)
  rw [show perOf f N b - 1 + 1 = perOf f N b from by omega, hp.2.1] at h2
  exact h2
theorem merge_of (hno : ¬ OnOrb f a b) {x y : Nat} (h : OnOrb f x y) : OnOrb (swp f a b) x y := by
  have hg := swp_inj hf ha hb
  have hab := merge_ab hf hb hno
  obtain ⟨k, rfl⟩ := h
  induction k with
  | zero => exact onOrb_refl _ _
  | succ k ih =>
    refine onOrb_trans ih ?_
    rw [iter_succ]
    generalize iter f k x = z
    by_cases h1 : z = a
    · rw [h1]
      exact onOrb_trans hab ⟨1, swp_right f a b⟩
    · by_cases h2 : z = b
      · rw [h2]
        exact onOrb_trans (onOrb_symm hg ha hab) ⟨1, swp_left f a b⟩
      · exact ⟨1, swp_other f h1 h2⟩
omit hf ha hb in
theorem merge_to {x y : Nat} (h : OnOrb (swp f a b) x y) : OnOrb f x y ∨ ((OnOrb f x a ∨ OnOrb f x b) ∧ (OnOrb f a y ∨ OnOrb f b y)) := by
  obtain ⟨k, rfl⟩ := h
  induction k with
  | zero => exact .inl (onOrb_refl _ _)
  | succ k ih =>
    rw [iter_succ]
    generalize iter (swp f a b) k x = z at ih
    by_cases h1 : z = a
    · subst h1
      rw [swp_left]
      rcases ih with h | h
      · exact .inr ⟨.inl h, .inr ⟨1, rfl⟩⟩
      · exact .inr ⟨h.1, .inr ⟨1, rfl⟩⟩
    · by_cases h2 : z = b
      · subst h2
        rw [swp_right]
        rcases ih with h | h
        · exact .inr ⟨.inr h, .inl ⟨1, rfl⟩⟩
        · exact .inr ⟨h.1, .inl ⟨1, rfl⟩⟩
      · rw [swp_other f h1 h2]
        rcases ih with h | h
        · exact .inl (onOrb_trans h ⟨1, rfl⟩)
        · refine .inr ⟨h.1, ?_⟩
          rcases h.2 with g | g
          · exact .inl (onOrb_trans g ⟨1, rfl⟩)
          · exact .inr (onOrb_trans g ⟨1, rfl⟩)
/-- One cycle becomes two. -/
theorem split_ab (hab : a ≠ b) (h : OnOrb f a b) : ¬ OnOrb (swp f a b) a b := by
  have hg := swp_inj hf ha hb
  have hp := perOf_all hf a ha
  obtain ⟨k0, hk0⟩ := h
  rw [iter_mod hp.2.1] at hk0
  have hkp := Nat.mod_lt k0 hp.1
  generalize k0 % perOf f N a = k at *
  have hk : 0 < k := by
    rcases Nat.eq_zero_or_pos k with e | e
    · rw [e] at hk0; exact absurd hk0 hab
    · exact e
  intro hno
  obtain ⟨j, hj⟩ := onOrb_symm hg ha hno
  have key : ∀ j, ∃ i, 1 ≤ i ∧ i ≤ k ∧ iter (swp f a b) j b = iter f i a := by
    intro j
    induction j with
    | zero => exact ⟨k, hk, Nat.le_refl _, hk0.symm⟩
    | succ j ih =>
      obtain ⟨i, h1, h2, h3⟩ := ih
      rw [iter_succ, h3]
      by_cases e : i = k
      · refine ⟨1, by omega, by omega, ?_⟩
        rw [e, hk0, swp_right]; rfl
      · refine ⟨i + 1, by omega, by omega, ?_⟩
        rw [iter_succ]
        refine swp_other f (hp.2.2 i (by omega) (by omega)) ?_
        rw [← hk0]
        exact iter_ne hf ha hp (by omega) hkp
  obtain ⟨i, h1, h2, h3⟩ := key j
  rw [hj] at h3
  exact hp.2.2 i (by omega) (by omega) h3.symm
/-- The cycles' number, when two become one. -/
theorem merge_count (hno : ¬ OnOrb f a b) (P : Nat → Bool) (hP : ∀ x, x < N → P (f x) = P x) (hPa : P a = true) (hPb : P b = true) :
    cnt (fun x => leastB f (perOf f N) x && P x) N = cnt (fun x => leastB (swp f a b) (perOf (swp f a b) N) x && P x) N + 1 := by
  have hg := swp_inj hf ha hb
  have hp := perOf_all hf
  have hp' := perOf_all hg
  have hPo : ∀ x y, x < N → OnOrb f x y → P y = P x := by
    rintro x y hx ⟨k, rfl⟩
    induction k with
    | zero => rfl
    | succ k ih => rw [iter_succ, hP _ (iter_lt f N hf.lt k x hx), ih]
  have hPg : ∀ x, x < N → P (swp f a b x) = P x := by
    intro x hx
    by_cases h1 : x = a
    · rw [h1, swp_left, hP b hb, hPa, hPb]
    · by_cases h2 : x = b
      · rw [h2, swp_right, hP a ha, hPa, hPb]
      · rw [swp_other f h1 h2, hP x hx]
  have hPog : ∀ x y, x < N → OnOrb (swp f a b) x y → P y = P x := by
    rintro x y hx ⟨k, rfl⟩
    induction k with
    | zero => rfl
    | succ k ih => rw [iter_succ, hPg _ (iter_lt _ N hg.lt k x hx), ih]
  have hfb := fl_lt hf hp hb
  have hrm := cnt_remove (p := fun x => leastB f (perOf f N) x && P x) hfb (by
    rw [(fl_least hf hp hfb).2 (fl_idem hf hp hb), hPo b _ hb (fl_spec hp hb).1, hPb]; rfl)
  have hab := merge_ab hf hb hno
  have key : ∀ x y, x < N → y < N → OnOrb f x y → fl f (perOf f N) x = fl f (perOf f N) y := fun x y hx _ h => (fl_eq hf hp hx h).symm
  have keyg : ∀ x y, x < N → y < N → fl (swp f a b) (perOf (swp f a b) N) x = fl (swp f a b) (perOf (swp f a b) N) y → OnOrb (swp f a b) x y := fun x y hx hy h => by
    have h1 := (fl_spec hp' hx).1
    have h2 := (fl_spec hp' hy).1
    rw [← h] at h2
    exact onOrb_trans h1 (onOrb_symm hg hy h2)
  have keyf : ∀ x y, x < N → y < N → fl f (perOf f N) x = fl f (perOf f N) y → OnOrb f x y := fun x y hx hy h => by
    have h1 := (fl_spec hp hx).1
    have h2 := (fl_spec hp hy).1
    rw [← h] at h2
    exact onOrb_trans h1 (onOrb_symm hf hy h2)
  have le1 : cnt (fun x => (leastB f (perOf f N) x && P x) && decide (x ≠ fl f (perOf f N) b)) N ≤ cnt (fun x => leastB (swp f a b) (perOf (swp f a b) N) x && P x) N := by
    refine cnt_inj (fun x => fl (swp f a b) (perOf (swp f a b) N) x) (fun x hx h => ?_) (fun x y hx hy hpx hpy he => ?_)
    · rw [Bool.and_eq_true, Bool.and_eq_true] at h
      have hl := fl_lt hg hp' hx
      refine ⟨hl, ?_⟩
      rw [(fl_least hg hp' hl).2 (fl_idem hg hp' hx), hPog x _ hx (fl_spec hp' hx).1, h.1.2]; rfl
    · rw [Bool.and_eq_true, Bool.and_eq_true, decide_eq_true_eq] at hpx hpy
      have lx := (fl_least hf hp hx).1 hpx.1.1
      have ly := (fl_least hf hp hy).1 hpy.1.1
      rcases merge_to (keyg x y hx hy he) with h | ⟨h, g⟩
      · have := key x y hx hy h
        omega
      · have ex : x = fl f (perOf f N) a := by
          rcases h with h | h
          · rw [← key x a hx ha h]; exact lx.symm
          · exact absurd (lx.symm.trans (key x b hx hb h)) hpx.2
        have ey : y = fl f (perOf f N) a := by
          rcases g with h | h
          · rw [key a y ha hy h]; exact ly.symm
          · exact absurd (ly.symm.trans (key b y hb hy h).symm) hpy.2
        omega
  have le2 : cnt (fun x => leastB (swp f a b) (perOf (swp f a b) N) x && P x) N ≤ cnt (fun x => (leastB f (perOf f N) x && P x) && decide (x ≠ fl f (perOf f N) b)) N := by
    refine cnt_inj (fun s => if fl (swp f a b) (perOf (swp f a b) N) s = fl (swp f a b) (perOf (swp f a b) N) a then fl f (perOf f N) a else fl f (perOf f N) s) (fun s hs h => ?_) (fun s t hs ht hps hpt he => ?_)
    · rw [Bool.and_eq_true] at h
      show (if _ then _ else _) < N ∧ _
      split
      · rename_i e
        have hl := fl_lt hf hp ha
        refine ⟨hl, ?_⟩
        rw [(fl_least hf hp hl).2 (fl_idem hf hp ha), hPo a _ ha (fl_spec hp ha).1, hPa, Bool.true_and, Bool.true_and, decide_eq_true_eq]
        exact fun e2 => hno (keyf a b ha hb e2)
      · rename_i e
        have hl := fl_lt hf hp hs
        refine ⟨hl, ?_⟩
        rw [(fl_least hf hp hl).2 (fl_idem hf hp hs), hPo s _ hs (fl_spec hp hs).1, h.2, Bool.true_and, Bool.true_and, decide_eq_true_eq]
        intro e2
        refine e ?_
        have h1 := merge_of hf ha hb hno (keyf s b hs hb e2)
        rw [← fl_eq hg hp' hs h1, ← fl_eq hg hp' ha hab]
    · rw [Bool.and_eq_true] at hps hpt
      have ls := (fl_least hg hp' hs).1 hps.1
      have lt := (fl_least hg hp' ht).1 hpt.1
      have he : (if fl (swp f a b) (perOf (swp f a b) N) s = fl (swp f a b) (perOf (swp f a b) N) a then fl f (perOf f N) a else fl f (perOf f N) s) = (if fl (swp f a b) (perOf (swp f a b) N) t = fl (swp f a b) (perOf (swp f a b) N) a then fl f (perOf f N) a else fl f (perOf f N) t) := he
      split at he
      · rename_i e1
        split at he
        · rename_i e2
          omega
        · rename_i e2
          have h1 := merge_of hf ha hb hno (keyf a t ha ht he)
          exact absurd (fl_eq hg hp' ha h1) e2
      · rename_i e1
        split at he
        · rename_i e2
          have h1 := merge_of hf ha hb hno (keyf s a hs ha he)
          exact absurd (fl_eq hg hp' hs h1).symm e1
        · have h1 := merge_of hf ha hb hno (keyf s t hs ht he)
          have h2 := fl_eq hg hp' hs h1
          omega
  omega
theorem split_count (hab : a ≠ b) (h : OnOrb f a b) (P : Nat → Bool) (hP : ∀ x, x < N → P (f x) = P x) (hPa : P a = true) (hPb : P b = true) :
    cnt (fun x => leastB (swp f a b) (perOf (swp f a b) N) x && P x) N = cnt (fun x => leastB f (perOf f N) x && P x) N + 1 := by
  have hg := swp_inj hf ha hb
  have hPg : ∀ x, x < N → P (swp f a b x) = P x := by
    intro x hx
    by_cases h1 : x = a
    · rw [h1, swp_left, hP b hb, hPa, hPb]
    · by_cases h2 : x = b
      · rw [h2, swp_right, hP a ha, hPa, hPb]
      · rw [swp_other f h1 h2, hP x hx]
  have := merge_count hg ha hb (split_ab hf ha hb hab h) P hPg hPa hPb
  rw [swp_swp] at this
  exact this
end
section
variable {M : List Int} {n : Nat} (hm : Mates M n)
include hm
/-- A part has at most the faces of a sphere. -/
theorem genus_le {c0 : Nat} (hc0 : c0 < n) : FC M n c0 ≤ VC M n c0 + 2 := by
  have h1 := dual_count hm hc0
  have h2 := primal_count hm hc0
  have hD : cnt (DD M n c0) (4 * n) = 2 * cnt (isTree (mt M) (lf M n) (UU M c0)) (4 * n) := halves hm
  have hP := halves hm (v := fun x => x / 4) (E := EE M n c0)
  have hU : cnt (UU M c0) (4 * n) = 4 * VC M n c0 := by
    classical
    exact cnt_four (fun c => decide (Conn M c0 c)) n
  have hE := cnt_split (UU M c0) (fun x => !DD M n c0 x) (4 * n)
  have hE1 : cnt (fun x => UU M c0 x && !!DD M n c0 x) (4 * n) = cnt (DD M n c0) (4 * n) := cnt_congr fun x hx => by
    cases hd : DD M n c0 x
    · simp
    · rw [DD_UU hm hx hd]; rfl
  have hE2 : cnt (fun x => UU M c0 x && !DD M n c0 x) (4 * n) = cnt (EE M n c0) (4 * n) := rfl
  have hle := cnt_mono (N := 4 * n) (p := fun y => isTree (mt M) (fun x => x / 4) (EE M n c0) y || isTree (mt M) (fun x => x / 4) (EE M n c0) (mt M y)) (q := EE M n c0) (fun y hy hp => by
    rw [Bool.or_eq_true] at hp
    rcases hp with hp | hp
    · exact isTree_E hp
    · rw [← EE_mt hm hy]; exact isTree_E hp)
  omega
end
/-- The least of c's part. -/
noncomputable def rep (M : List Int) (c : Nat) : Nat := Classical.choose (exists_min M c)
theorem rep_conn (M : List Int) (c : Nat) : Conn M c (rep M c) := (Classical.choose_spec (exists_min M c)).1
theorem rep_le (M : List Int) {c e : Nat} (h : Conn M c e) : rep M c ≤ e := (Classical.choose_spec (exists_min M c)).2 e h
section
variable {M : List Int} {n : Nat} (hm : MateOk M n)
include hm
theorem rep_lt {c : Nat} (hc : c < n) : rep M c < n := hm.conn_lt hc (rep_conn M c)
theorem rep_eq {c d : Nat} (hc : c < n) (hd : d < n) : rep M c = rep M d ↔ Conn M c d := by
  constructor
  · intro h
    have h1 := rep_conn M c
    have h2 := rep_conn M d
    rw [← h] at h2
    exact h1.trans (hm.conn_symm hd h2)
  · intro h
    have h1 := rep_le M (h.trans (rep_conn M d))
    have h2 := rep_le M ((hm.conn_symm hc h).trans (rep_conn M c))
    omega
theorem rep_idem {c : Nat} (hc : c < n) : rep M (rep M c) = rep M c := (rep_eq hm (rep_lt hm hc) hc).2 (hm.conn_symm hc (rep_conn M c))
end
/-- A sum over the numbers that pass. -/
def sumOn (p : Nat → Bool) (g : Nat → Nat) : Nat → Nat
  | 0 => 0
  | k + 1 => sumOn p g k + if p k = true then g k else 0
theorem sumOn_congr {p : Nat → Bool} {g h : Nat → Nat} {k : Nat} (e : ∀ c, c < k → p c = true → g c = h c) : sumOn p g k = sumOn p h k := by
  induction k with
  | zero => rfl
  | succ k ih =>
    rw [sumOn, sumOn, ih fun c hc => e c (by omega)]
    split
    · rw [e k (by omega) (by assumption)]
    · rfl
theorem sumOn_add (p : Nat → Bool) (g h : Nat → Nat) (k : Nat) : sumOn p (fun c => g c + h c) k = sumOn p g k + sumOn p h k := by
  induction k with
  | zero => rfl
  | succ k ih => rw [sumOn, sumOn, sumOn, ih]; split <;> omega
theorem sumOn_const (p : Nat → Bool) (a k : Nat) : sumOn p (fun _ => a) k = a * cnt p k := by
  induction k with
  | zero => rfl
  | succ k ih => rw [sumOn, cnt_succ, ih, Nat.mul_add]; split <;> simp
theorem sumOn_le {p : Nat → Bool} {g h : Nat → Nat} {k : Nat} (e : ∀ c, c < k → p c = true → g c ≤ h c) : sumOn p g k ≤ sumOn p h k := by
  induction k with
  | zero => exact Nat.le_refl _
  | succ k ih =>
    have := ih fun c hc => e c (by omega)
    rw [sumOn, sumOn]
    split
    · have := e k (by omega) (by assumption); omega
    · omega
theorem sumOn_tight {p : Nat → Bool} {g h : Nat → Nat} {k : Nat} (e : ∀ c, c < k → p c = true → g c ≤ h c) (hs : sumOn p g k = sumOn p h k) : ∀ c, c < k → p c = true → g c = h c := by
  induction k with
  | zero => intro c hc; omega
  | succ k ih =>
    have h1 : sumOn p g k ≤ sumOn p h k := sumOn_le fun c hc hp => e c (by omega) hp
    rw [sumOn, sumOn] at hs
    intro c hc hp
    by_cases hk : p k = true
    · rw [if_pos hk, if_pos hk] at hs
      have h2 := e k (by omega) hk
      rcases Nat.lt_or_ge c k with g | g
      · exact ih (fun c hc => e c (by omega)) (by omega) c g hp
      · obtain rfl : c = k := by omega
        omega
    · rw [if_neg hk, if_neg hk] at hs
      rcases Nat.lt_or_ge c k with g | g
      · exact ih (fun c hc => e c (by omega)) (by omega) c g hp
      · obtain rfl : c = k := by omega
        exact absurd hp hk
/-- Counting by fibres over the numbers that pass. -/
theorem cnt_sum (Q : Nat → Bool) (v : Nat → Nat) (p : Nat → Bool) (B : Nat) : ∀ N, (∀ x, x < N → v x < B ∧ p (v x) = true) → cnt Q N = sumOn p (fun c => cnt (fun x => Q x && decide (v x = c)) N) B
  | 0, _ => by
    have h0 := sumOn_const p 0 B
    rw [Nat.zero_mul] at h0
    exact h0.symm
  | N + 1, h => by
    have ih := cnt_sum Q v p B N fun x hx => h x (by omega)
    have e : sumOn p (fun c => cnt (fun x => Q x && decide (v x = c)) (N + 1)) B = sumOn p (fun c => cnt (fun x => Q x && decide (v x = c)) N + if (Q N && decide (v N = c)) = true then 1 else 0) B := sumOn_congr fun c _ _ => by rw [cnt_succ]
    rw [e, sumOn_add, ← ih, cnt_succ]
    have one : ∀ B, sumOn p (fun c => if (Q N && decide (v N = c)) = true then 1 else 0) B = if v N < B ∧ p (v N) = true ∧ Q N = true then 1 else 0 := by
      intro B
      induction B with
      | zero => rw [if_neg (by omega)]; rfl
      | succ B ihB =>
        rw [sumOn, ihB]
        by_cases hB : v N = B
        · subst hB
          rw [if_neg (by omega)]
          by_cases h1 : p (v N) = true
          · by_cases h2 : Q N = true
            · rw [if_pos h1, if_pos (by rw [h2]; simp), if_pos ⟨by omega, h1, h2⟩]
            · rw [if_pos h1, if_neg (by simp [h2]), if_neg (by rintro ⟨_, _, h⟩; exact h2 h)]
          · rw [if_neg h1, if_neg (by rintro ⟨_, h, _⟩; exact h1 h)]
        · have : ¬ (Q N && decide (v N = B)) = true := by rw [Bool.and_eq_true, decide_eq_true_eq]; exact fun e => hB e.2
          rw [if_neg this]
          have h0 : (if p B = true then 0 else 0) = 0 := by split <;> rfl
          rw [h0]
          by_cases h3 : v N < B ∧ p (v N) = true ∧ Q N = true
          · rw [if_pos h3, if_pos ⟨by omega, h3.2⟩]
          · rw [if_neg h3, if_neg (by rintro ⟨a, b⟩; exact h3 ⟨by omega, b⟩)]
    rw [one]
    have := h N (by omega)
    by_cases hq : Q N = true
    · rw [if_pos hq, if_pos ⟨this.1, this.2, hq⟩]
    · rw [if_neg hq, if_neg (by rintro ⟨_, _, h⟩; exact hq h)]
/-- The faces, the parts. -/
noncomputable def FT (M : List Int) (n : Nat) : Nat := cnt (leastB (fc M) (perOf (fc M) (4 * n))) (4 * n)
noncomputable def CT (M : List Int) (n : Nat) : Nat := cnt (fun c => decide (rep M c = c)) n
section
variable {M : List Int} {n : Nat} (hm : Mates M n)
include hm
theorem FT_sum : FT M n = sumOn (fun c => decide (rep M c = c)) (FC M n) n := by
  unfold FT
  rw [cnt_sum _ (fun x => rep M (x / 4)) (fun c => decide (rep M c = c)) n (4 * n) fun x hx => ⟨rep_lt hm.ok (by omega), decide_eq_true (rep_idem hm.ok (by omega))⟩]
  refine sumOn_congr fun c hc hp => ?_
  rw [decide_eq_true_eq] at hp
  refine cnt_congr fun x hx => ?_
  congr 1
  rw [decide_eq_decide]
  have := rep_eq hm.ok (c := c) (d := x / 4) hc (by omega)
  rw [hp] at this
  rw [← this]
  exact eq_comm
theorem VT_sum : n = sumOn (fun c => decide (rep M c = c)) (VC M n) n := by
  have h1 : cnt (fun _ => true) n = n := by
    have : ∀ k, cnt (fun _ => true) k = k := fun k => by
      induction k with
      | zero => rfl
      | succ k ih => rw [cnt_succ, ih]; rfl
    exact this n
  have h2 := cnt_sum (fun _ => true) (fun x => rep M x) (fun c => decide (rep M c = c)) n n fun x hx => ⟨rep_lt hm.ok hx, decide_eq_true (rep_idem hm.ok hx)⟩
  rw [h1] at h2
  refine h2.trans (sumOn_congr fun c hc hp => ?_)
  rw [decide_eq_true_eq] at hp
  refine cnt_congr fun x hx => ?_
  rw [Bool.true_and, decide_eq_decide]
  have := rep_eq hm.ok (c := c) (d := x) hc hx
  rw [hp] at this
  rw [← this]
  exact eq_comm
/-- No diagram has more faces than spheres have. -/
theorem genus_total : FT M n ≤ n + 2 * CT M n := by
  have h1 := FT_sum hm
  have h2 := VT_sum hm
  have h3 := sumOn_const (fun c => decide (rep M c = c)) 2 n
  have h4 := sumOn_le (p := fun c => decide (rep M c = c)) (g := FC M n) (h := fun c => VC M n c + 2) (k := n) fun c hc _ => genus_le hm hc
  rw [sumOn_add, h3] at h4
  unfold CT
  omega
/-- Sphericity by totals. -/
theorem sph_total : Sph M n ↔ FT M n = n + 2 * CT M n := by
  have h1 := FT_sum hm
  have h2 := VT_sum hm
  have h3 := sumOn_const (fun c => decide (rep M c = c)) 2 n
  have h5 := sumOn_add (fun c => decide (rep M c = c)) (VC M n) (fun _ => 2) n
  rw [h3] at h5
  unfold CT
  constructor
  · intro hs
    have h4 := sumOn_congr (p := fun c => decide (rep M c = c)) (g := FC M n) (h := fun c => VC M n c + 2) (k := n) fun c hc _ => hs c hc
    omega
  · intro ht c hc
    have h6 := sumOn_tight (p := fun c => decide (rep M c = c)) (g := FC M n) (h := fun c => VC M n c + 2) (k := n) (fun c hc _ => genus_le hm hc) (by omega)
    have hr := rep_lt hm.ok hc
    have h7 := h6 (rep M c) hr (decide_eq_true (rep_idem hm.ok hc))
    have hcc := hm.ok.conn_symm hc (rep_conn M c)
    have e1 : FC M n c = FC M n (rep M c) := by
      unfold FC
      refine cnt_congr fun x hx => ?_
      congr 1
      rw [decide_eq_decide]
      exact ⟨fun h => hcc.trans h, fun h => (rep_conn M c).trans h⟩
    have e2 : VC M n c = VC M n (rep M c) := by
      unfold VC
      refine cnt_congr fun x hx => ?_
      rw [decide_eq_decide]
      exact ⟨fun h => hcc.trans h, fun h => (rep_conn M c).trans h⟩
    rw [e1, e2]; exact h7
end
/-- An equivalence on the numbers below N. -/
structure Eqv (E : Nat → Nat → Prop) (N : Nat) : Prop where
  refl : ∀ x, x < N → E x x
  symm : ∀ x y, x < N → y < N → E x y → E y x
  trans : ∀ x y z, x < N → y < N → z < N → E x y → E y z → E x z
open Classical in
/-- How many classes: each counted at its least element, those that pass. -/
noncomputable def nc (E : Nat → Nat → Prop) (P : Nat → Bool) (N : Nat) : Nat := cnt (fun x => P x && decide (∀ y, y < N → E x y → x ≤ y)) N
/-- The least of x's class. -/
theorem cls_least {E : Nat → Nat → Prop} {N : Nat} (hE : Eqv E N) {x : Nat} (hx : x < N) : ∃ r, r < N ∧ E x r ∧ (∀ y, y < N → E r y → r ≤ y) := by
  obtain ⟨r, ⟨h1, h2⟩, h3⟩ := exists_least (p := fun y => y < N ∧ E x y) ⟨x, hx, hE.refl x hx⟩
  exact ⟨r, h1, h2, fun y hy h => h3 y ⟨hy, hE.trans x r y hx h1 hy h2 h⟩⟩
theorem nc_le {E E' : Nat → Nat → Prop} {P P' : Nat → Bool} {N N' : Nat} (hE : Eqv E N) (hE' : Eqv E' N') (hP' : ∀ x y, x < N' → y < N' → E' x y → P' x = true → P' y = true)
    (ρ : Nat → Nat) (hρ : ∀ x, x < N → P x = true → ρ x < N' ∧ P' (ρ x) = true) (h : ∀ x y, x < N → y < N → P x = true → P y = true → E' (ρ x) (ρ y) → E x y) : nc E P N ≤ nc E' P' N' := by
  classical
  have hex : ∀ z, ∃ r, z < N' → (r < N' ∧ E' z r ∧ (∀ y, y < N' → E' r y → r ≤ y)) := fun z => by
    by_cases hz : z < N'
    · obtain ⟨r, hr⟩ := cls_least hE' hz
      exact ⟨r, fun _ => hr⟩
    · exact ⟨0, fun h => absurd h hz⟩
  obtain ⟨ch, hch⟩ := Classical.axiomOfChoice hex
  refine cnt_inj (fun x => ch (ρ x)) (fun x hx hp => ?_) (fun x y hx hy hpx hpy he => ?_)
  · rw [Bool.and_eq_true] at hp
    obtain ⟨h1, h2⟩ := hρ x hx hp.1
    obtain ⟨c1, c2, c3⟩ := hch (ρ x) h1
    refine ⟨c1, ?_⟩
    rw [hP' _ _ h1 c1 c2 h2, Bool.true_and, decide_eq_true_eq]
    exact c3
  · rw [Bool.and_eq_true, decide_eq_true_eq] at hpx hpy
    obtain ⟨h1, _⟩ := hρ x hx hpx.1
    obtain ⟨g1, _⟩ := hρ y hy hpy.1
    obtain ⟨c1, c2, _⟩ := hch (ρ x) h1
    obtain ⟨d1, d2, _⟩ := hch (ρ y) g1
    have he : ch (ρ x) = ch (ρ y) := he
    rw [← he] at d2
    have e := h x y hx hy hpx.1 hpy.1 (hE'.trans _ _ _ h1 c1 g1 c2 (hE'.symm _ _ g1 c1 d2))
    have a := hpx.2 y hy e
    have b := hpy.2 x hx (hE.symm _ _ hx hy e)
    omega
theorem nc_congr {E : Nat → Nat → Prop} {P Q : Nat → Bool} {N : Nat} (h : ∀ x, x < N → P x = Q x) : nc E P N = nc E Q N := cnt_congr fun x hx => by rw [h x hx]
theorem nc_split (E : Nat → Nat → Prop) (P Q : Nat → Bool) (N : Nat) : nc E P N = nc E (fun x => P x && Q x) N + nc E (fun x => P x && !Q x) N := by
  unfold nc
  rw [cnt_split _ Q]
  have e : ∀ a b d : Bool, (a && d && b) = (a && b && d) := by decide
  congr 1
  · exact cnt_congr fun x _ => e _ _ _
  · exact cnt_congr fun x _ => e _ _ _
/-- One class. -/
theorem nc_one {E : Nat → Nat → Prop} {P : Nat → Bool} {N a : Nat} (hE : Eqv E N) (ha : a < N) (hPa : P a = true) (hP : ∀ x y, x < N → y < N → E x y → P x = true → P y = true) (h : ∀ x, x < N → P x = true → E x a) : nc E P N = 1 := by
  classical
  refine Nat.le_antisymm ?_ ?_
  · refine cnt_one fun x y hx hy hpx hpy => ?_
    rw [Bool.and_eq_true, decide_eq_true_eq] at hpx hpy
    have e := hE.trans _ _ _ hx ha hy (h x hx hpx.1) (hE.symm _ _ hy ha (h y hy hpy.1))
    have c := hpx.2 y hy e
    have d := hpy.2 x hx (hE.symm _ _ hx hy e)
    omega
  · obtain ⟨r, h1, h2, h3⟩ := cls_least hE ha
    unfold nc
    have h4 := cnt_remove (p := fun x => P x && decide (∀ y, y < N → E x y → x ≤ y)) h1 (by
      rw [hP a r ha h1 h2 hPa, Bool.true_and, decide_eq_true_eq]; exact h3)
    omega
theorem nc_orb {f : Nat → Nat} {N : Nat} (hf : Inj f N) (P : Nat → Bool) : cnt (fun x => leastB f (perOf f N) x && P x) N = nc (OnOrb f) P N := by
  classical
  refine cnt_congr fun x hx => ?_
  rw [Bool.and_comm]
  congr 1
  rw [Bool.eq_iff_iff, leastB_iff hf (perOf_all hf) hx, decide_eq_true_eq]
  constructor
  · intro h y hy ho
    rcases Nat.lt_or_ge y x with g | g
    · exact absurd (onOrb_symm hf hx ho) (h y g)
    · exact g
  · intro h y hy ho
    have := h y (by omega) (onOrb_symm hf (by omega) ho)
    omega
theorem orb_eqv {f : Nat → Nat} {N : Nat} (hf : Inj f N) : Eqv (OnOrb f) N := ⟨fun x _ => onOrb_refl f x, fun _ _ hx _ h => onOrb_symm hf hx h, fun _ _ _ _ _ _ h1 h2 => onOrb_trans h1 h2⟩
/-- THE FIRST RETURN: its cycles are the permutation's. -/
theorem induced_orb {f g : Nat → Nat} {U : Nat → Prop} (h : ∀ x, U x → U (g x) ∧ ∃ k, 0 < k ∧ g x = iter f k x ∧ ∀ i, 0 < i → i < k → ¬ U (iter f i x)) {x y : Nat} (hx : U x) (hy : U y) : OnOrb g x y ↔ OnOrb f x y := by
  constructor
  · rintro ⟨k, rfl⟩
    clear hy
    have : U (iter g k x) ∧ OnOrb f x (iter g k x) := by
      induction k with
      | zero => exact ⟨hx, onOrb_refl _ _⟩
      | succ k ih =>
        obtain ⟨h1, h2⟩ := ih
        obtain ⟨h3, j, _, hj, _⟩ := h _ h1
        rw [iter_succ]
        exact ⟨h3, onOrb_trans h2 ⟨j, hj.symm⟩⟩
    exact this.2
  · rintro ⟨m, hm⟩
    have key : ∀ m x, U x → iter f m x = y → OnOrb g x y := by
      intro m
      induction m using Nat.strongRecOn with
      | _ m ih =>
        intro x hx hm
        rcases Nat.eq_zero_or_pos m with rfl | hpos
        · exact ⟨0, hm⟩
        · obtain ⟨h1, k, hk, hg, hno⟩ := h x hx
          have hkm : k ≤ m := by
            rcases Nat.lt_or_ge m k with g | g
            · exact absurd (by rw [hm]; exact hy) (hno m hpos g)
            · exact g
          refine onOrb_trans ⟨1, rfl⟩ (ih (m - k) (by omega) (g x) h1 ?_)
          rw [hg, ← iter_add, show m - k + k = m from by omega, hm]
    exact key m x hx hm
/-- One more tie: at most one class less. -/
theorem nc_tie {E E' : Nat → Nat → Prop} {N a b : Nat} (hE : Eqv E N) (hE' : Eqv E' N) (ha : a < N) (hb : b < N)
    (h : ∀ x y, x < N → y < N → E' x y → E x y ∨ ((E x a ∨ E x b) ∧ (E y a ∨ E y b))) : nc E (fun _ => true) N ≤ nc E' (fun _ => true) N + 1 ∧ (E a b → nc E (fun _ => true) N ≤ nc E' (fun _ => true) N) := by
  classical
  constructor
  · rw [nc_split E (fun _ => true) (fun x => decide (E x b))]
    have h1 : nc E (fun x => true && decide (E x b)) N ≤ 1 := by
      refine Nat.le_of_eq (nc_one hE hb ?_ ?_ ?_)
      · rw [Bool.true_and, decide_eq_true_eq]; exact hE.refl b hb
      · intro x y hx hy e hp
        rw [Bool.true_and, decide_eq_true_eq] at hp ⊢
        exact hE.trans _ _ _ hy hx hb (hE.symm _ _ hx hy e) hp
      · intro x hx hp
        rw [Bool.true_and, decide_eq_true_eq] at hp
        exact hp
    have h2 : nc E (fun x => true && !decide (E x b)) N ≤ nc E' (fun _ => true) N := by
      refine nc_le hE hE' (fun _ _ _ _ _ _ => rfl) id (fun x hx _ => ⟨hx, rfl⟩) (fun x y hx hy hp hq e => ?_)
      rw [Bool.true_and, Bool.not_eq_true', decide_eq_false_iff_not] at hp hq
      rcases h x y hx hy e with g | ⟨g1, g2⟩
      · exact g
      · rcases g1 with g1 | g1
        · rcases g2 with g2 | g2
          · exact hE.trans _ _ _ hx ha hy g1 (hE.symm _ _ hy ha g2)
          · exact absurd g2 hq
        · exact absurd g1 hp
    omega
  · intro hab
    refine nc_le hE hE' (fun _ _ _ _ _ _ => rfl) id (fun x hx _ => ⟨hx, rfl⟩) (fun x y hx hy _ _ e => ?_)
    have hba := hE.symm _ _ ha hb hab
    rcases h x y hx hy e with g | ⟨g1, g2⟩
    · exact g
    · have k1 : E x a := by
        rcases g1 with g | g
        · exact g
        · exact hE.trans _ _ _ hx hb ha g hba
      have k2 : E y a := by
        rcases g2 with g | g
        · exact g
        · exact hE.trans _ _ _ hy hb ha g hba
      exact hE.trans _ _ _ hx ha hy k1 (hE.symm _ _ hy ha k2)
/-- The half-edge of the crossing with which y is joined; p: the parity that goes to the next slot. -/
def jn (p y : Nat) : Nat := if y % 2 = p then tn y 1 else tn y (-1)
theorem tn_odd (x : Nat) (e : Int) (he : e = 1 ∨ e = -1) : tn x e % 2 ≠ x % 2 := by
  rcases he with rfl | rfl <;> unfold tn <;> omega
theorem jn_div (p y : Nat) : jn p y / 4 = y / 4 := by unfold jn; split <;> exact tn_div _ _
theorem jn_par (p y : Nat) : jn p y % 2 ≠ y % 2 := by
  unfold jn; split
  · exact tn_odd y 1 (.inl rfl)
  · exact tn_odd y (-1) (.inr rfl)
theorem jn_ne (p y : Nat) : jn p y ≠ y := fun e => jn_par p y (by rw [e])
theorem jn_jn {p : Nat} (hp : p = 0 ∨ p = 1) (y : Nat) : jn p (jn p y) = y := by
  have h := jn_par p y
  unfold jn at *
  by_cases e : y % 2 = p
  · rw [if_pos e] at *
    rw [if_neg (by omega)]; exact tn_back' y
  · rw [if_neg e] at *
    rw [if_pos (by omega)]; exact tn_back y
theorem jn_lt {p y n : Nat} (hy : y < 4 * n) : jn p y < 4 * n := by have := jn_div p y; omega
theorem jn_inj {p x y : Nat} (hp : p = 0 ∨ p = 1) (h : jn p x = jn p y) : x = y := by rw [← jn_jn hp x, h, jn_jn hp]
/-- Where the edge that comes to m goes on. -/
def thr (M : List Int) (p c m : Nat) : Nat := if m / 4 = c then (if mt M (jn p m) / 4 = c then mt M (jn p (mt M (jn p m))) else mt M (jn p m)) else m
/-- One step: along the edge; at c along the join; elsewhere by t slots. -/
def stp (M : List Int) (p c : Nat) (t : Int) (y : Nat) : Nat := if mt M y / 4 = c then jn p (mt M y) else tn (mt M y) t
section
variable {M : List Int} {n p c : Nat} (hm : Mates M n) (hp : p = 0 ∨ p = 1)
include hm hp
omit hp in
theorem stp_lt {t : Int} {y : Nat} (hy : y < 4 * n) : stp M p c t y < 4 * n := by
  unfold stp; split
  · exact jn_lt (hm.lt hy)
  · exact tn_lt _ _ _ (hm.lt hy)
theorem stp_inj (t : Int) (ht : -4 ≤ t) : Inj (stp M p c t) (4 * n) := by
  refine ⟨fun x hx => stp_lt hm hx, fun x y hx hy he => ?_⟩
  have key : mt M x = mt M y → x = y := fun e => by rw [← hm.inv hx, e, hm.inv hy]
  unfold stp at he
  split at he
  · rename_i h1
    split at he
    · exact key (jn_inj hp he)
    · rename_i h2
      have a := jn_div p (mt M x)
      have b := tn_div (mt M y) t
      rw [he] at a
      omega
  · rename_i h1
    split at he
    · rename_i h2
      have a := jn_div p (mt M y)
      have b := tn_div (mt M x) t
      rw [← he] at a
      omega
    · exact key (tn_inj ht he)
/-- The third half-edge lies elsewhere. -/
theorem thr_third {x : Nat} (hx : x < 4 * n) (hxc : x / 4 ≠ c) (h0 : mt M x / 4 = c) (h1 : mt M (jn p (mt M x)) / 4 = c) : mt M (jn p (mt M (jn p (mt M x)))) / 4 ≠ c := by
  intro h2
  have l0 := hm.lt hx
  have lj0 : jn p (mt M x) < 4 * n := jn_lt l0
  have l1 := hm.lt lj0
  have lj1 : jn p (mt M (jn p (mt M x))) < 4 * n := jn_lt l1
  have i0 := hm.inv hx
  have i1 := hm.inv lj0
  have i2 := hm.inv lj1
  have f0 := hm.ne _ lj0
  have f1 := hm.ne _ lj1
  have n0 := jn_ne p (mt M x)
  have n1 := jn_ne p (mt M (jn p (mt M x)))
  have q0 := jn_div p (mt M x)
  have q1 := jn_div p (mt M (jn p (mt M x)))
  have e0 : mt M (jn p (mt M x)) ≠ mt M x := fun e => by
    rw [e, i0] at i1
    rw [i1] at hxc
    omega
  have e1 : jn p (mt M (jn p (mt M x))) ≠ mt M x := fun e => by
    have := jn_jn hp (mt M (jn p (mt M x)))
    rw [e] at this
    exact f0 this.symm
  have e2 : jn p (mt M (jn p (mt M x))) ≠ jn p (mt M x) := fun e => e0 (jn_inj hp e)
  -- the third is one of the four
  generalize hm0 : mt M x = m0 at *
  generalize hj0 : jn p m0 = j0 at *
  generalize hm1 : mt M j0 = m1 at *
  generalize hj1 : jn p m1 = j1 at *
  generalize hm2 : mt M j1 = m2 at *
  have c0 : m2 ≠ m0 := fun e => by
    rw [e, i0] at i2
    rw [← i2] at q1
    omega
  have c1 : m2 ≠ j0 := fun e => by
    rw [e, hm1] at i2
    exact n1 i2.symm
  have c2 : m2 ≠ m1 := fun e => by
    rw [e, i1] at i2
    exact e2 i2.symm
  have c3 : m2 ≠ j1 := f1
  omega
theorem thr_out {x : Nat} (hx : x < 4 * n) (hxc : x / 4 ≠ c) : thr M p c (mt M x) / 4 ≠ c := by
  unfold thr
  by_cases h0 : mt M x / 4 = c
  · rw [if_pos h0]
    by_cases h1 : mt M (jn p (mt M x)) / 4 = c
    · rw [if_pos h1]; exact thr_third hm hp hx hxc h0 h1
    · rw [if_neg h1]; exact h1
  · rw [if_neg h0]; exact h0
omit hp in
theorem thr_lt {m : Nat} (hx : m < 4 * n) : thr M p c m < 4 * n := by
  unfold thr
  split
  · split
    · exact hm.lt (jn_lt (hm.lt (jn_lt hx)))
    · exact hm.lt (jn_lt hx)
  · exact hx
/-- .. and back. -/
theorem thr_thr {x : Nat} (hx : x < 4 * n) (hxc : x / 4 ≠ c) : thr M p c (mt M (thr M p c (mt M x))) = x := by
  have l0 := hm.lt hx
  have i0 := hm.inv hx
  by_cases h0 : mt M x / 4 = c
  · have lj0 : jn p (mt M x) < 4 * n := jn_lt l0
    have l1 := hm.lt lj0
    have i1 := hm.inv lj0
    have q0 := jn_div p (mt M x)
    by_cases h1 : mt M (jn p (mt M x)) / 4 = c
    · have lj1 : jn p (mt M (jn p (mt M x))) < 4 * n := jn_lt l1
      have i2 := hm.inv lj1
      have q1 := jn_div p (mt M (jn p (mt M x)))
      have e1 : thr M p c (mt M x) = mt M (jn p (mt M (jn p (mt M x)))) := by unfold thr; rw [if_pos h0, if_pos h1]
      rw [e1, i2]
      unfold thr
      rw [if_pos (by omega), jn_jn hp, i1, if_pos (by omega), jn_jn hp, i0]
    · have e1 : thr M p c (mt M x) = mt M (jn p (mt M x)) := by unfold thr; rw [if_pos h0, if_neg h1]
      rw [e1, i1]
      unfold thr
      rw [if_pos (by omega), jn_jn hp, i0, if_neg hxc]
  · have e1 : thr M p c (mt M x) = mt M x := by unfold thr; rw [if_neg h0]
    rw [e1, i0]
    unfold thr
    rw [if_neg hxc]
theorem thr_ne {x : Nat} (hx : x < 4 * n) : thr M p c (mt M x) ≠ x := by
  have l0 := hm.lt hx
  have i0 := hm.inv hx
  unfold thr
  by_cases h0 : mt M x / 4 = c
  · rw [if_pos h0]
    have lj0 : jn p (mt M x) < 4 * n := jn_lt l0
    have l1 := hm.lt lj0
    have i1 := hm.inv lj0
    by_cases h1 : mt M (jn p (mt M x)) / 4 = c
    · rw [if_pos h1]
      have lj1 : jn p (mt M (jn p (mt M x))) < 4 * n := jn_lt l1
      have i2 := hm.inv lj1
      intro e
      rw [e] at i2
      have k := congrArg (jn p) i2
      rw [jn_jn hp] at k
      exact hm.ne _ lj0 k.symm
    · rw [if_neg h1]
      intro e
      rw [e] at i1
      exact jn_ne p _ i1.symm
  · rw [if_neg h0]; exact hm.ne x hx
/-- The first return. -/
theorem thr_first (t : Int) {x : Nat} (hx : x < 4 * n) (hxc : x / 4 ≠ c) : ∃ k, 0 < k ∧ tn (thr M p c (mt M x)) t = iter (stp M p c t) k x ∧ ∀ i, 0 < i → i < k → (iter (stp M p c t) i x) / 4 = c := by
  have s1 : ∀ y, mt M y / 4 = c → stp M p c t y = jn p (mt M y) := fun y h => if_pos h
  have s2 : ∀ y, mt M y / 4 ≠ c → stp M p c t y = tn (mt M y) t := fun y h => if_neg h
  by_cases h0 : mt M x / 4 = c
  · have lj0 : jn p (mt M x) < 4 * n := jn_lt (hm.lt hx)
    have q0 := jn_div p (mt M x)
    by_cases h1 : mt M (jn p (mt M x)) / 4 = c
    · have h2 := thr_third hm hp hx hxc h0 h1
      have q1 := jn_div p (mt M (jn p (mt M x)))
      refine ⟨3, by omega, ?_, fun i h3 h4 => ?_⟩
      · have e1 : thr M p c (mt M x) = mt M (jn p (mt M (jn p (mt M x)))) := by unfold thr; rw [if_pos h0, if_pos h1]
        show _ = stp M p c t (stp M p c t (stp M p c t x))
        rw [e1, s1 x h0, s1 _ h1, s2 _ h2]
      · rcases (show i = 1 ∨ i = 2 from by omega) with rfl | rfl
        · show stp M p c t x / 4 = c
          rw [s1 x h0]; omega
        · show stp M p c t (stp M p c t x) / 4 = c
          rw [s1 x h0, s1 _ h1]; omega
    · refine ⟨2, by omega, ?_, fun i h3 h4 => ?_⟩
      · have e1 : thr M p c (mt M x) = mt M (jn p (mt M x)) := by unfold thr; rw [if_pos h0, if_neg h1]
        show _ = stp M p c t (stp M p c t x)
        rw [e1, s1 x h0, s2 _ h1]
      · obtain rfl : i = 1 := by omega
        show stp M p c t x / 4 = c
        rw [s1 x h0]; omega
  · refine ⟨1, by omega, ?_, fun i h3 h4 => by omega⟩
    have e1 : thr M p c (mt M x) = mt M x := by unfold thr; rw [if_neg h0]
    show _ = stp M p c t x
    rw [e1, s2 x h0]
end
/-- The numbers without crossing c. -/
def up (c h : Nat) : Nat := if h / 4 < c then h else h + 4
def dn (c x : Nat) : Nat := if x / 4 > c then x - 4 else x
theorem up_out (c h : Nat) : up c h / 4 ≠ c := by unfold up; split <;> omega
theorem up_lt {c h n : Nat} (hh : h < 4 * (n - 1)) : up c h < 4 * n := by unfold up; split <;> omega
theorem up_dn {c x : Nat} (hx : x / 4 ≠ c) : up c (dn c x) = x := by unfold up dn; split <;> split <;> omega
theorem dn_up (c h : Nat) : dn c (up c h) = h := by unfold up dn; split <;> split <;> omega
theorem dn_lt {c x n : Nat} (hc : c < n) (hx : x < 4 * n) (hxc : x / 4 ≠ c) : dn c x < 4 * (n - 1) := by unfold dn; split <;> omega
theorem up_inj {c x y : Nat} (h : up c x = up c y) : x = y := by rw [← dn_up c x, h, dn_up]
theorem up_tn (c h : Nat) (t : Int) : up c (tn h t) = tn (up c h) t := by
  have := tn_div h t
  unfold up
  rw [this]
  split
  · rfl
  · unfold tn; omega
/-- M' is M with the strands at c joined by p, and without c. -/
structure Sm (M M' : List Int) (n p c : Nat) : Prop where
  cn : c < n
  pp : p = 0 ∨ p = 1
  mate : ∀ h, h < 4 * (n - 1) → nth M' h = (dn c (thr M p c (mt M (up c h))) : Int)
namespace Sm
variable {M M' : List Int} {n p c : Nat} (h : Sm M M' n p c) (hm : Mates M n)
include h hm
omit hm in
theorem mate' {x : Nat} (hx : x < 4 * (n - 1)) : mt M' x = dn c (thr M p c (mt M (up c x))) := by
  have := h.mate x hx
  unfold mt at *
  omega
theorem up_mate {x : Nat} (hx : x < 4 * (n - 1)) : up c (mt M' x) = thr M p c (mt M (up c x)) := by
  rw [h.mate' hx]
  exact up_dn (thr_out hm h.pp (up_lt hx) (up_out c x))
theorem mates : Mates M' (n - 1) := by
  have key : ∀ x, x < 4 * (n - 1) → mt M' x < 4 * (n - 1) ∧ mt M' (mt M' x) = x ∧ mt M' x ≠ x := fun x hx => by
    have hu := up_lt (c := c) hx
    have ho := thr_out hm h.pp hu (up_out c x)
    have hl : mt M' x < 4 * (n - 1) := by
      rw [h.mate' hx]
      exact dn_lt h.cn (thr_lt hm (hm.lt hu)) ho
    refine ⟨hl, up_inj (c := c) ?_, fun e => ?_⟩
    · rw [h.up_mate hm hl, h.up_mate hm hx]
      exact thr_thr hm h.pp hu (up_out c x)
    · have := h.up_mate hm hx
      rw [e] at this
      exact thr_ne hm h.pp hu this.symm
  refine ⟨⟨fun x hx => ?_, fun x hx => ?_⟩, fun x hx => (key x hx).2.2⟩
  · have a := h.mate x hx
    have b := (key x hx).1
    rw [h.mate' hx] at b
    omega
  · have a := key x hx
    have b := h.mate _ a.1
    rw [← h.mate' a.1] at b
    rw [a.2.1] at b
    exact b
/-- The cycles. -/
theorem orb (t : Int) {x y : Nat} (hx : x < 4 * (n - 1)) (hy : y < 4 * (n - 1)) : OnOrb (fb M' t) x y ↔ OnOrb (stp M p c t) (up c x) (up c y) := by
  have hm' := h.mates hm
  have hlt : ∀ z, z < 4 * (n - 1) → fb M' t z < 4 * (n - 1) := fun z hz => tn_lt _ _ _ (hm'.lt hz)
  have hst : ∀ z, z < 4 * (n - 1) → up c (fb M' t z) = tn (thr M p c (mt M (up c z))) t := fun z hz => by
    have : fb M' t z = tn (mt M' z) t := rfl
    rw [this, up_tn, h.up_mate hm hz]
  have hit : ∀ k z, z < 4 * (n - 1) → up c (iter (fb M' t) k z) = iter (fun w => tn (thr M p c (mt M w)) t) k (up c z) := fun k z hz => by
    induction k with
    | zero => rfl
    | succ k ih => rw [iter_succ, iter_succ, hst _ (iter_lt _ _ hlt k z hz), ih]
  have h1 := induced_orb (f := stp M p c t) (g := fun w => tn (thr M p c (mt M w)) t) (U := fun w => w < 4 * n ∧ w / 4 ≠ c) (fun w ⟨hw, hwc⟩ => by
    refine ⟨⟨tn_lt _ _ _ (thr_lt hm (hm.lt hw)), by rw [tn_div]; exact thr_out hm h.pp hw hwc⟩, ?_⟩
    obtain ⟨k, a, b, d⟩ := thr_first hm h.pp t hw hwc
    exact ⟨k, a, b, fun i hi hik e => e.2 (d i hi hik)⟩) (x := up c x) (y := up c y) ⟨up_lt hx, up_out c x⟩ ⟨up_lt hy, up_out c y⟩
  rw [← h1]
  constructor
  · rintro ⟨k, rfl⟩
    exact ⟨k, (hit k x hx).symm⟩
  · rintro ⟨k, hk⟩
    refine ⟨k, up_inj (c := c) ?_⟩
    rw [hit k x hx]; exact hk
end Sm
/-- Connected when the strands at c are joined by p. -/
def Jd (M : List Int) (p c x y : Nat) : Prop := ∀ Q : Nat → Prop, Q x → (∀ z, Q z → Q (mt M z)) → (∀ z, Q z → z / 4 ≠ c → Q (tn z 1)) → (∀ z, Q z → z / 4 = c → Q (jn p z)) → Q y
namespace Jd
variable {M : List Int} {p c : Nat}
theorem refl (x : Nat) : Jd M p c x x := fun _ h _ _ _ => h
theorem trans {x y z : Nat} (a : Jd M p c x y) (b : Jd M p c y z) : Jd M p c x z := fun Q h h1 h2 h3 => b Q (a Q h h1 h2 h3) h1 h2 h3
theorem mate {x y : Nat} (a : Jd M p c x y) : Jd M p c x (mt M y) := fun Q h h1 h2 h3 => h1 _ (a Q h h1 h2 h3)
theorem turn {x y : Nat} (a : Jd M p c x y) (hy : y / 4 ≠ c) : Jd M p c x (tn y 1) := fun Q h h1 h2 h3 => h2 _ (a Q h h1 h2 h3) hy
theorem join {x y : Nat} (a : Jd M p c x y) (hy : y / 4 = c) : Jd M p c x (jn p y) := fun Q h h1 h2 h3 => h3 _ (a Q h h1 h2 h3) hy
theorem turn2 {x y : Nat} (a : Jd M p c x y) (hy : y / 4 ≠ c) : Jd M p c x (tn y 2) := by
  have := (a.turn hy).turn (by rw [tn_div]; exact hy)
  rwa [tn_tn _ _ _ (by omega) (by omega) (by omega)] at this
theorem turn3 {x y : Nat} (a : Jd M p c x y) (hy : y / 4 ≠ c) : Jd M p c x (tn y (-1)) := by
  have := (a.turn2 hy).turn (by rw [tn_div]; exact hy)
  rw [tn_tn _ _ _ (by omega) (by omega) (by omega)] at this
  rwa [← tn_four _ _ (by omega)]
theorem cross {x y z : Nat} (a : Jd M p c x y) (hy : y / 4 ≠ c) (hz : z / 4 = y / 4) : Jd M p c x z := by
  rcases (show z = y ∨ z = tn y 1 ∨ z = tn y 2 ∨ z = tn y (-1) from by unfold tn; omega) with rfl | rfl | rfl | rfl
  · exact a
  · exact a.turn hy
  · exact a.turn2 hy
  · exact a.turn3 hy
theorem lt {n x y : Nat} (hm : Mates M n) (hx : x < 4 * n) (a : Jd M p c x y) : y < 4 * n :=
  a (· < 4 * n) hx (fun _ hz => hm.lt hz) (fun _ hz _ => tn_lt _ _ _ hz) (fun _ hz _ => jn_lt hz)
theorem symm {n x y : Nat} (hm : Mates M n) (hp : p = 0 ∨ p = 1) (hx : x < 4 * n) (a : Jd M p c x y) : Jd M p c y x := by
  refine (a (fun z => z < 4 * n ∧ Jd M p c z x) ⟨hx, refl x⟩ (fun z ⟨hz, h⟩ => ⟨hm.lt hz, ?_⟩) (fun z ⟨hz, h⟩ hc => ⟨tn_lt _ _ _ hz, ?_⟩) (fun z ⟨hz, h⟩ hc => ⟨jn_lt hz, ?_⟩)).2
  · have := (refl (M := M) (p := p) (c := c) (mt M z)).mate
    rw [hm.inv hz] at this
    exact this.trans h
  · exact ((refl (M := M) (p := p) (c := c) (tn z 1)).cross (z := z) (by rw [tn_div]; exact hc) (by rw [tn_div])).trans h
  · have := (refl (M := M) (p := p) (c := c) (jn p z)).join (by rw [jn_div]; exact hc)
    rw [jn_jn hp] at this
    exact this.trans h
theorem eqv {n : Nat} (hm : Mates M n) (hp : p = 0 ∨ p = 1) : Eqv (Jd M p c) (4 * n) := ⟨fun x _ => refl x, fun _ _ hx _ h => h.symm hm hp hx, fun _ _ _ _ _ _ h1 h2 => h1.trans h2⟩
theorem stp {x : Nat} (t : Int) : Jd M p c x (stp M p c t x) := by
  unfold Proofs.YtmhhjchnjaefhaaDoor.stp
  split
  · rename_i h; exact ((refl x).mate).join h
  · rename_i h; exact ((refl x).mate).cross h (by rw [tn_div])
theorem orb {x y : Nat} (t : Int) (h : OnOrb (Proofs.YtmhhjchnjaefhaaDoor.stp M p c t) x y) : Jd M p c x y := by
  obtain ⟨k, rfl⟩ := h
  induction k with
  | zero => exact refl x
  | succ k ih =>
    rw [iter_succ]
    exact ih.trans (Jd.stp t)
end Jd
/-- The half-edges at c that lie on new loops. -/
def inn (M : List Int) (p c y : Nat) : Bool := decide (y / 4 = c ∧ (mt M y = jn p y ∨ (mt M y = tn y 2 ∧ mt M (jn p y) = tn (jn p y) 2)))
theorem inn_iff {M : List Int} {p c y : Nat} : inn M p c y = true ↔ y / 4 = c ∧ (mt M y = jn p y ∨ (mt M y = tn y 2 ∧ mt M (jn p y) = tn (jn p y) 2)) := decide_eq_true_iff
theorem jn_tn2 (p y : Nat) : jn p (tn y 2) = tn (jn p y) 2 := by
  have : tn y 2 % 2 = y % 2 := by unfold tn; omega
  unfold jn
  rw [this]
  split
  · rw [tn_tn _ _ _ (by omega) (by omega) (by omega), tn_tn _ _ _ (by omega) (by omega) (by omega)]; rfl
  · rw [tn_tn _ _ _ (by omega) (by omega) (by omega), tn_tn _ _ _ (by omega) (by omega) (by omega)]; rfl
/-- The four at a crossing. -/
theorem four_of (p : Nat) {y z : Nat} (h : z / 4 = y / 4) : z = y ∨ z = jn p y ∨ z = tn y 2 ∨ z = tn (jn p y) 2 := by
  have h1 := jn_par p y
  have h2 := jn_div p y
  unfold tn
  omega
/-- What turns the direction: in a diagram the mates at one crossing are the joined one or the opposite one. -/
structure Way (M : List Int) (n p c : Nat) (o : Nat → Bool) : Prop where
  mate : ∀ x, x < 4 * n → o (mt M x) = !(o x)
  join : ∀ x, x < 4 * n → x / 4 = c → o (jn p x) = !(o x)
  opp : ∀ x, x < 4 * n → o (tn x 2) = !(o x)
section
variable {M : List Int} {n p c : Nat} {o : Nat → Bool} (hm : Mates M n) (hp : p = 0 ∨ p = 1) (hw : Way M n p c o)
include hm hp hw
omit hp in
theorem mate_at {y : Nat} (hy : y < 4 * n) (hyc : y / 4 = c) (h : mt M y / 4 = c) : mt M y = jn p y ∨ mt M y = tn y 2 := by
  rcases four_of p (y := y) (z := mt M y) (by omega) with e | e | e | e
  · exact absurd e (hm.ne y hy)
  · exact .inl e
  · exact .inr e
  · have a := hw.mate y hy
    have b := hw.opp (jn p y) (jn_lt hy)
    have d := hw.join y hy hyc
    rw [← e, d, a] at b
    cases o y <;> simp at b
omit hm hp hw in
theorem stp_c {t : Int} {y : Nat} (h : mt M y / 4 = c) : stp M p c t y = jn p (mt M y) := if_pos h
omit hm hp hw in
theorem stp_n {t : Int} {y : Nat} (h : mt M y / 4 ≠ c) : stp M p c t y = tn (mt M y) t := if_neg h
/-- A half-edge that lies on no new loop meets the other crossings. -/
theorem meets (t : Int) {y : Nat} (hy : y < 4 * n) (hi : inn M p c y = false) : ∃ z, z < 4 * n ∧ z / 4 ≠ c ∧ OnOrb (stp M p c t) y z := by
  by_cases hyc : y / 4 = c
  · have hmy := hm.lt hy
    by_cases h0 : mt M y / 4 = c
    · rcases mate_at hm hw hy hyc h0 with e | e
      · rw [← Bool.not_eq_true, inn_iff] at hi
        exact absurd ⟨hyc, .inl e⟩ hi
      · -- the opposite one
        have hv : jn p (mt M y) < 4 * n := jn_lt hmy
        have hvc : jn p (mt M y) / 4 = c := by rw [jn_div]; exact h0
        have s1 : OnOrb (stp M p c t) y (jn p (mt M y)) := ⟨1, stp_c h0⟩
        have hmv := hm.lt hv
        by_cases h1 : mt M (jn p (mt M y)) / 4 = c
        · exfalso
          rcases mate_at hm hw hv hvc h1 with e1 | e1
          · rw [jn_jn hp] at e1
            have := hm.inv hv
            rw [e1, hm.inv hy] at this
            rw [e] at this
            have a := jn_par p (tn y 2)
            rw [← this] at a
            have : tn y 2 % 2 = y % 2 := by unfold tn; omega
            omega
          · rw [← Bool.not_eq_true, inn_iff] at hi
            refine hi ⟨hyc, .inr ⟨e, ?_⟩⟩
            rw [e, jn_tn2, tn_22] at e1
            have := hm.inv (tn_lt (jn p y) n 2 (jn_lt hy))
            rw [e1] at this
            exact this
        · exact ⟨_, tn_lt _ _ t hmv, by rw [tn_div]; exact h1, onOrb_trans s1 ⟨1, stp_n h1⟩⟩
    · exact ⟨_, tn_lt _ _ t hmy, by rw [tn_div]; exact h0, 1, stp_n h0⟩
  · exact ⟨y, hy, hyc, onOrb_refl _ _⟩
omit hw in
/-- What a new loop holds. -/
theorem loop_of {x y : Nat} (hx : x < 4 * n) (hi : inn M p c x = true) (h : Jd M p c x y) : y / 4 = c ∧ (mt M x = jn p x → y = x ∨ y = jn p x) := by
  obtain ⟨hxc, hd⟩ := inn_iff.1 hi
  have hj : jn p x / 4 = c := by rw [jn_div]; exact hxc
  have hc : ∀ z, z / 4 = c → z < 4 * n := fun z hz => by omega
  rcases hd with e | ⟨e1, e2⟩
  · have hb : mt M (jn p x) = x := by rw [← e, hm.inv hx]
    have := h (fun z => z = x ∨ z = jn p x) (.inl rfl) (fun z hz => by
      rcases hz with rfl | rfl
      · exact .inr e
      · exact .inl hb) (fun z hz hzc => by
      rcases hz with rfl | rfl
      · exact absurd hxc hzc
      · exact absurd hj hzc) (fun z hz _ => by
      rcases hz with rfl | rfl
      · exact .inr rfl
      · exact .inl (jn_jn hp _))
    refine ⟨?_, fun _ => this⟩
    rcases this with rfl | rfl
    · exact hxc
    · exact hj
  · have b1 : mt M (tn x 2) = x := by rw [← e1, hm.inv hx]
    have b2 : mt M (tn (jn p x) 2) = jn p x := by rw [← e2, hm.inv (jn_lt hx)]
    have := h (fun z => z / 4 = c) hxc (fun z hz => by
      rcases four_of p (y := x) (z := z) (by omega) with rfl | rfl | rfl | rfl
      · rw [e1, tn_div]; exact hxc
      · rw [e2, tn_div]; exact hj
      · rw [b1]; exact hxc
      · rw [b2]; exact hj) (fun z hz hzc => absurd hz hzc) (fun z hz _ => by rw [jn_div]; exact hz)
    refine ⟨this, fun e3 => ?_⟩
    rw [e1] at e3
    have a := jn_par p x
    rw [← e3] at a
    have : tn x 2 % 2 = x % 2 := by unfold tn; omega
    omega
omit hw in
/-- Loops and the rest do not meet. -/
theorem inn_jd {x y : Nat} (hx : x < 4 * n) (h : Jd M p c x y) : inn M p c x = true → inn M p c y = true := by
  intro hi
  obtain ⟨hyc, h1⟩ := loop_of hm hp hx hi h
  obtain ⟨hxc, hd⟩ := inn_iff.1 hi
  rcases hd with e | ⟨e1, e2⟩
  · rcases h1 e with rfl | rfl
    · exact hi
    · rw [inn_iff, jn_jn hp]
      exact ⟨hyc, .inl (by rw [← e, hm.inv hx])⟩
  · have b1 : mt M (tn x 2) = x := by rw [← e1, hm.inv hx]
    have b2 : mt M (tn (jn p x) 2) = jn p x := by rw [← e2, hm.inv (jn_lt hx)]
    rw [inn_iff]
    refine ⟨hyc, .inr ?_⟩
    rcases four_of p (y := x) (z := y) (by omega) with rfl | rfl | rfl | rfl
    · exact ⟨e1, e2⟩
    · rw [jn_jn hp]; exact ⟨e2, e1⟩
    · rw [jn_tn2, tn_22, tn_22]; exact ⟨b1, b2⟩
    · rw [jn_tn2, jn_jn hp, tn_22, tn_22]; exact ⟨b2, b1⟩
omit hw in
theorem inn_eq {x y : Nat} (hx : x < 4 * n) (h : Jd M p c x y) : inn M p c y = inn M p c x := by
  rw [Bool.eq_iff_iff]
  exact ⟨inn_jd hm hp (h.lt hm hx) (h.symm hm hp hx), inn_jd hm hp hx h⟩
/-- On the new loops the cycles of one direction are the loops. -/
theorem loops_dir (t : Int) (ht : -4 ≤ t) (b : Bool) : nc (OnOrb (stp M p c t)) (fun x => inn M p c x && (o x == b)) (4 * n) = nc (Jd M p c) (inn M p c) (4 * n) := by
  have hE := orb_eqv (stp_inj hm hp (c := c) t ht)
  have hJ := Jd.eqv (c := c) hm hp
  have hst : ∀ x, x < 4 * n → inn M p c x = true → mt M x / 4 = c := fun x hx hi => (loop_of hm hp hx hi (Jd.refl x).mate).1
  have hoo : ∀ x, x < 4 * n → inn M p c x = true → o (stp M p c t x) = o x := fun x hx hi => by
    have h1 := hst x hx hi
    rw [stp_c h1, hw.join _ (hm.lt hx) h1, hw.mate x hx, Bool.not_not]
  have horb : ∀ x y, x < 4 * n → inn M p c x = true → OnOrb (stp M p c t) x y → o y = o x := by
    rintro x y hx hi ⟨k, rfl⟩
    induction k with
    | zero => rfl
    | succ k ih =>
      have hk := iter_lt (stp M p c t) _ (fun y hy => stp_lt hm hy) k x hx
      rw [iter_succ, hoo _ hk (by rw [inn_eq hm hp hx (Jd.orb t ⟨k, rfl⟩)]; exact hi), ih]
  refine Nat.le_antisymm ?_ ?_
  · refine nc_le hE hJ (fun x y hx hy h hi => by rw [inn_eq hm hp hx h]; exact hi) id (fun x hx hpx => ?_) (fun x y hx hy hpx hpy h => ?_)
    · rw [Bool.and_eq_true] at hpx; exact ⟨hx, hpx.1⟩
    · have h : Jd M p c x y := h
      rw [Bool.and_eq_true, beq_iff_eq] at hpx hpy
      obtain ⟨hyc, h1⟩ := loop_of hm hp hx hpx.1 h
      obtain ⟨hxc, hd⟩ := inn_iff.1 hpx.1
      have hjo := hw.join x hx hxc
      rcases hd with e | ⟨e1, e2⟩
      · rcases h1 e with g | g
        · rw [g]; exact onOrb_refl _ _
        · rw [g, hjo, hpx.2] at hpy
          exact absurd hpy.2 (by cases b <;> decide)
      · have ho2 := hw.opp x hx
        rcases four_of p (y := x) (z := y) (by omega) with g | g | g | g
        · rw [g]; exact onOrb_refl _ _
        · rw [g, hjo, hpx.2] at hpy
          exact absurd hpy.2 (by cases b <;> decide)
        · rw [g, ho2, hpx.2] at hpy
          exact absurd hpy.2 (by cases b <;> decide)
        · refine ⟨1, ?_⟩
          show stp M p c t x = y
          rw [stp_c (by rw [e1, tn_div]; exact hxc), e1, jn_tn2, g]
  · refine nc_le hJ hE (fun x y hx hy h hi => ?_) (fun x => if o x = b then x else jn p x) (fun x hx hi => ?_) (fun x y hx hy hix hiy h => ?_)
    · rw [Bool.and_eq_true, beq_iff_eq] at hi ⊢
      exact ⟨by rw [inn_eq hm hp hx (Jd.orb t h)]; exact hi.1, by rw [horb x y hx hi.1 h]; exact hi.2⟩
    · show (if _ then _ else _) < _ ∧ _
      obtain ⟨hxc, _⟩ := inn_iff.1 hi
      split
      · rename_i g
        refine ⟨hx, ?_⟩
        rw [hi, g]; simp
      · rename_i g
        refine ⟨jn_lt hx, ?_⟩
        rw [inn_eq hm hp hx ((Jd.refl x).join hxc), hi, hw.join x hx hxc]
        cases b <;> simp_all
    · have k1 : ∀ z, z < 4 * n → inn M p c z = true → Jd M p c z (if o z = b then z else jn p z) := fun z hz hi => by
        split
        · exact Jd.refl z
        · exact (Jd.refl z).join (inn_iff.1 hi).1
      have hx2 := (k1 x hx hix).lt hm hx
      have h2 := Jd.orb t h
      exact ((k1 x hx hix).trans h2).trans ((k1 y hy hiy).symm hm hp hy)
theorem loops_all (t : Int) (ht : -4 ≤ t) : nc (OnOrb (stp M p c t)) (inn M p c) (4 * n) = 2 * nc (Jd M p c) (inn M p c) (4 * n) := by
  have h1 := loops_dir hm hp hw t ht true
  have h2 := loops_dir hm hp hw t ht false
  rw [nc_split _ _ o]
  have e1 : nc (OnOrb (stp M p c t)) (fun x => inn M p c x && o x) (4 * n) = nc (OnOrb (stp M p c t)) (fun x => inn M p c x && (o x == true)) (4 * n) := nc_congr fun x _ => by cases o x <;> rfl
  have e2 : nc (OnOrb (stp M p c t)) (fun x => inn M p c x && !o x) (4 * n) = nc (OnOrb (stp M p c t)) (fun x => inn M p c x && (o x == false)) (4 * n) := nc_congr fun x _ => by cases o x <;> rfl
  omega
end
theorem orb_congr {f g : Nat → Nat} {N : Nat} (hf : Inj f N) (P : Nat → Prop) (hP : ∀ x, x < N → P x → P (f x)) (h : ∀ x, x < N → P x → f x = g x) {x y : Nat} (hx : x < N) (hpx : P x) : OnOrb f x y ↔ OnOrb g x y := by
  have key : ∀ k, iter g k x = iter f k x ∧ P (iter f k x) := by
    intro k
    induction k with
    | zero => exact ⟨rfl, hpx⟩
    | succ k ih =>
      have hk := iter_lt f N hf.lt k x hx
      rw [iter_succ, iter_succ, ih.1]
      exact ⟨(h _ hk ih.2).symm, hP _ hk ih.2⟩
  exact ⟨fun ⟨k, hk⟩ => ⟨k, by rw [(key k).1]; exact hk⟩, fun ⟨k, hk⟩ => ⟨k, by rw [← (key k).1]; exact hk⟩⟩
theorem Jd.thr {M : List Int} {p c : Nat} (x : Nat) : Jd M p c x (thr M p c (mt M x)) := by
  unfold Proofs.YtmhhjchnjaefhaaDoor.thr
  split
  · rename_i h0
    have h1 := ((Jd.refl (M := M) (p := p) (c := c) x).mate).join h0
    split
    · rename_i h2
      exact ((h1.mate).join h2).mate
    · exact h1.mate
  · exact (Jd.refl x).mate
namespace Sm
variable {M M' : List Int} {n p c : Nat} (h : Sm M M' n p c) (hm : Mates M n)
include h hm
theorem conn_to {a b : Nat} (ha : a < 4 * (n - 1)) (hb : b < 4 * (n - 1)) (hc : Conn M' (a / 4) (b / 4)) : Jd M p c (up c a) (up c b) := by
  have hm' := h.mates hm
  refine (hc (fun d => d < n - 1 ∧ ∀ b, b < 4 * (n - 1) → b / 4 = d → Jd M p c (up c a) (up c b)) ⟨by omega, fun b hb he => ?_⟩ (fun d e ⟨hd, hq⟩ hde => ⟨hm'.ok.adj_lt hd hde, fun b hb he => ?_⟩)).2 b hb rfl
  · exact (Jd.refl _).cross (up_out c a) (by unfold up; rw [he]; split <;> omega)
  · obtain ⟨s, hs, rfl⟩ := hde
    have h1 := hq (4 * d + s) (by omega) (by omega)
    have h2 := h.up_mate hm (x := 4 * d + s) (by omega)
    have h3 : Jd M p c (up c a) (up c (mt M' (4 * d + s))) := by rw [h2]; exact h1.trans (Jd.thr _)
    refine h3.cross (up_out c _) ?_
    have h4 : b / 4 = mt M' (4 * d + s) / 4 := he
    unfold up; rw [h4]; split <;> omega
theorem conn_from {a b : Nat} (ha : a < 4 * (n - 1)) (hj : Jd M p c (up c a) (up c b)) : Conn M' (a / 4) (b / 4) := by
  have hm' := h.mates hm
  have hp := h.pp
  -- what comes through c from x
  have hmate : ∀ x, x < 4 * n → x / 4 ≠ c → Conn M' (a / 4) (dn c x / 4) → Conn M' (a / 4) (dn c (thr M p c (mt M x)) / 4) := fun x hx hxc hcx => by
    have hl := dn_lt h.cn hx hxc
    have h1 := (hm'.conn hl).1 hcx
    rw [h.mate' hl, up_dn hxc] at h1
    exact h1
  have hback : ∀ x, x < 4 * n → x / 4 ≠ c → Conn M' (a / 4) (dn c (thr M p c (mt M x)) / 4) → Conn M' (a / 4) (dn c x / 4) := fun x hx hxc hcx => by
    have h1 := hmate _ (thr_lt hm (hm.lt hx)) (thr_out hm hp hx hxc) hcx
    rw [thr_thr hm hp hx hxc] at h1
    exact h1
  have key := hj (fun z => z < 4 * n ∧ (z / 4 ≠ c → Conn M' (a / 4) (dn c z / 4)) ∧ (z / 4 = c → ∀ x, x < 4 * n → x / 4 ≠ c → mt M x / 4 = c → (z = mt M x ∨ z = jn p (mt M x) ∨ (mt M (jn p (mt M x)) / 4 = c ∧ (z = mt M (jn p (mt M x)) ∨ z = jn p (mt M (jn p (mt M x)))))) → Conn M' (a / 4) (dn c x / 4)))
    ⟨up_lt ha, fun _ => by rw [dn_up]; exact Conn.refl _ _, fun e => absurd e (up_out c a)⟩
    (fun z ⟨hz, q1, q2⟩ => by
      refine ⟨hm.lt hz, fun hw => ?_, fun hw x hx hxc h0 hch => ?_⟩
      · by_cases hzc : z / 4 = c
        · have := q2 hzc (mt M z) (hm.lt hz) hw (by rw [hm.inv hz]; exact hzc) (.inl (hm.inv hz).symm)
          exact this
        · have := hmate z hz hzc (q1 hzc)
          have e : thr M p c (mt M z) = mt M z := by unfold thr; rw [if_neg hw]
          rwa [e] at this
      · have lj : jn p (mt M x) < 4 * n := jn_lt (hm.lt hx)
        by_cases hzc : z / 4 = c
        · refine q2 hzc x hx hxc h0 ?_
          rcases hch with e | e | ⟨h1, e | e⟩
          · have := congrArg (mt M) e
            rw [hm.inv hz, hm.inv hx] at this
            rw [this] at hzc
            exact absurd hzc hxc
          · have := congrArg (mt M) e
            rw [hm.inv hz] at this
            refine .inr (.inr ⟨by rw [← this]; exact hzc, .inl this⟩)
          · have := congrArg (mt M) e
            rw [hm.inv hz, hm.inv lj] at this
            exact .inr (.inl this)
          · have := congrArg (mt M) e
            rw [hm.inv hz] at this
            exact absurd (by rw [← this]; exact hzc) (thr_third hm hp hx hxc h0 h1)
        · have hcz := q1 hzc
          rcases hch with e | e | ⟨h1, e | e⟩
          · have := congrArg (mt M) e
            rw [hm.inv hz, hm.inv hx] at this
            rw [← this]; exact hcz
          · have := congrArg (mt M) e
            rw [hm.inv hz] at this
            refine hback x hx hxc ?_
            have e2 : thr M p c (mt M x) = z := by unfold thr; rw [if_pos h0, if_neg (by rw [← this]; exact hzc), this]
            rw [e2]; exact hcz
          · have := congrArg (mt M) e
            rw [hm.inv hz, hm.inv lj] at this
            exact absurd (by rw [this, jn_div]; exact h0) hzc
          · have := congrArg (mt M) e
            rw [hm.inv hz] at this
            refine hback x hx hxc ?_
            have e2 : thr M p c (mt M x) = z := by unfold thr; rw [if_pos h0, if_pos h1, this]
            rw [e2]; exact hcz)
    (fun z ⟨hz, q1, q2⟩ hzc => by
      have hd := tn_div z 1
      refine ⟨tn_lt _ _ _ hz, fun _ => ?_, fun e => absurd e (by rw [hd]; exact hzc)⟩
      have := q1 hzc
      have e : dn c (tn z 1) / 4 = dn c z / 4 := by
        unfold dn; rw [hd]; split <;> omega
      rw [e]; exact this)
    (fun z ⟨hz, q1, q2⟩ hzc => by
      refine ⟨jn_lt hz, fun e => absurd (by rw [jn_div]; exact hzc) e, fun _ x hx hxc h0 hch => ?_⟩
      refine q2 hzc x hx hxc h0 ?_
      have back1 : ∀ u, jn p z = u → z = jn p u := fun u e => by rw [← e, jn_jn hp]
      rcases hch with e | e | ⟨h1, e | e⟩
      · exact .inr (.inl (back1 _ e))
      · exact .inl (jn_inj hp e)
      · exact .inr (.inr ⟨h1, .inr (back1 _ e)⟩)
      · exact .inr (.inr ⟨h1, .inl (jn_inj hp e)⟩))
  have := key.2.1 (up_out c b)
  rwa [dn_up] at this
variable {o : Nat → Bool} (hw : Way M n p c o)
include hw
/-- The cycles that are not cut off. -/
theorem rest_orb (t : Int) (ht : -4 ≤ t) (P P' : Nat → Bool) (hPP : ∀ x, x < 4 * (n - 1) → P' x = P (up c x)) (hP : ∀ x y, x < 4 * n → OnOrb (stp M p c t) x y → P y = P x) :
    nc (OnOrb (stp M p c t)) (fun x => !inn M p c x && P x) (4 * n) = nc (OnOrb (fb M' t)) P' (4 * (n - 1)) := by
  have hm' := h.mates hm
  have hp := h.pp
  have hE := orb_eqv (stp_inj hm hp (c := c) t ht)
  have hE' : Eqv (OnOrb (fb M' t)) (4 * (n - 1)) := orb_eqv ⟨fun x hx => tn_lt _ _ _ (hm'.lt hx), fun x y hx hy e => by
    have e : tn (mt M' x) t = tn (mt M' y) t := e
    rw [← hm'.inv hx, tn_inj ht e, hm'.inv hy]⟩
  refine Nat.le_antisymm ?_ ?_
  · have hex : ∀ x, ∃ z, x < 4 * n → inn M p c x = false → (z < 4 * n ∧ z / 4 ≠ c ∧ OnOrb (stp M p c t) x z) := fun x => by
      by_cases hx : x < 4 * n ∧ inn M p c x = false
      · obtain ⟨z, hz⟩ := Proofs.YtmhhjchnjaefhaaDoor.meets hm hp hw t hx.1 hx.2
        exact ⟨z, fun _ _ => hz⟩
      · exact ⟨0, fun a b => absurd ⟨a, b⟩ hx⟩
    obtain ⟨ch, hch⟩ := Classical.axiomOfChoice hex
    refine nc_le hE hE' (fun x y hx hy ho hpx => ?_) (fun x => dn c (ch x)) (fun x hx hpx => ?_) (fun x y hx hy hpx hpy ho => ?_)
    · rw [hPP y hy, hP _ _ (up_lt hx) ((h.orb hm t hx hy).1 ho), ← hPP x hx]; exact hpx
    · rw [Bool.and_eq_true, Bool.not_eq_true'] at hpx
      obtain ⟨a, b, d⟩ := hch x hx hpx.1
      have hl := dn_lt h.cn a b
      refine ⟨hl, ?_⟩
      rw [hPP _ hl, up_dn b, hP x _ hx d]; exact hpx.2
    · rw [Bool.and_eq_true, Bool.not_eq_true'] at hpx hpy
      obtain ⟨a, b, d⟩ := hch x hx hpx.1
      obtain ⟨a', b', d'⟩ := hch y hy hpy.1
      have := (h.orb hm t (dn_lt h.cn a b) (dn_lt h.cn a' b')).1 ho
      rw [up_dn b, up_dn b'] at this
      exact onOrb_trans (onOrb_trans d this) (onOrb_symm (stp_inj hm hp t ht) hy d')
  · refine nc_le hE' hE (fun x y hx hy ho hpx => ?_) (up c) (fun x hx hpx => ?_) (fun x y hx hy _ _ ho => (h.orb hm t hx hy).2 ho)
    · rw [Bool.and_eq_true, Bool.not_eq_true'] at hpx ⊢
      refine ⟨?_, by rw [hP x y hx ho]; exact hpx.2⟩
      rw [inn_eq hm hp hx (Jd.orb t ho)]; exact hpx.1
    · refine ⟨up_lt hx, ?_⟩
      have : inn M p c (up c x) = false := by
        rw [← Bool.not_eq_true, inn_iff]
        exact fun e => up_out c x e.1
      rw [this, ← hPP x hx, hpx]; rfl
/-- The parts that are not cut off. -/
theorem rest_conn : nc (Jd M p c) (fun x => !inn M p c x) (4 * n) = nc (Conn M') (fun _ => true) (n - 1) := by
  have hm' := h.mates hm
  have hp := h.pp
  have hE := Jd.eqv (c := c) hm hp
  have hE' : Eqv (Conn M') (n - 1) := ⟨fun x _ => Conn.refl _ _, fun x y hx _ hc => hm'.ok.conn_symm hx hc, fun _ _ _ _ _ _ a b => a.trans b⟩
  refine Nat.le_antisymm ?_ ?_
  · have hex : ∀ x, ∃ z, x < 4 * n → inn M p c x = false → (z < 4 * n ∧ z / 4 ≠ c ∧ Jd M p c x z) := fun x => by
      by_cases hx : x < 4 * n ∧ inn M p c x = false
      · obtain ⟨z, a, b, d⟩ := Proofs.YtmhhjchnjaefhaaDoor.meets hm hp hw 1 hx.1 hx.2
        exact ⟨z, fun _ _ => ⟨a, b, Jd.orb 1 d⟩⟩
      · exact ⟨0, fun a b => absurd ⟨a, b⟩ hx⟩
    obtain ⟨ch, hch⟩ := Classical.axiomOfChoice hex
    refine nc_le hE hE' (fun _ _ _ _ _ _ => rfl) (fun x => dn c (ch x) / 4) (fun x hx hpx => ?_) (fun x y hx hy hpx hpy ho => ?_)
    · rw [Bool.not_eq_true'] at hpx
      obtain ⟨a, b, d⟩ := hch x hx hpx
      have hl := dn_lt h.cn a b
      exact ⟨by show dn c (ch x) / 4 < n - 1; omega, rfl⟩
    · rw [Bool.not_eq_true'] at hpx hpy
      obtain ⟨a, b, d⟩ := hch x hx hpx
      obtain ⟨a', b', d'⟩ := hch y hy hpy
      have := h.conn_to hm (dn_lt h.cn a b) (dn_lt h.cn a' b') ho
      rw [up_dn b, up_dn b'] at this
      exact (d.trans this).trans (d'.symm hm hp hy)
  · refine nc_le hE' hE (fun x y hx hy ho hpx => ?_) (fun k => up c (4 * k)) (fun x hx hpx => ?_) (fun x y hx hy _ _ ho => ?_)
    · rw [Bool.not_eq_true'] at hpx ⊢
      rw [inn_eq hm hp hx ho]; exact hpx
    · refine ⟨up_lt (by omega), ?_⟩
      rw [Bool.not_eq_true', ← Bool.not_eq_true, inn_iff]
      exact fun e => up_out c _ e.1
    · have := h.conn_from hm (by omega) ho
      rwa [show 4 * x / 4 = x from by omega, show 4 * y / 4 = y from by omega] at this
omit h hw in
theorem ct_nc : CT M n = nc (Conn M) (fun _ => true) n := by
  unfold CT nc
  refine cnt_congr fun x hx => ?_
  rw [Bool.true_and, decide_eq_decide]
  constructor
  · intro e y hy hc
    rw [← e]; exact rep_le M hc
  · intro e
    have h1 := rep_le M (Conn.refl M x)
    have h2 := e _ (rep_lt hm.ok hx) (rep_conn M x)
    omega
omit h hw in
theorem ct_four : nc (fun x y => Conn M (x / 4) (y / 4)) (fun _ => true) (4 * n) = nc (Conn M) (fun _ => true) n := by
  have hE : Eqv (fun x y => Conn M (x / 4) (y / 4)) (4 * n) := ⟨fun x _ => Conn.refl _ _, fun x y hx _ hc => hm.ok.conn_symm (by omega) hc, fun _ _ _ _ _ _ a b => a.trans b⟩
  have hE' : Eqv (Conn M) n := ⟨fun x _ => Conn.refl _ _, fun x y hx _ hc => hm.ok.conn_symm hx hc, fun _ _ _ _ _ _ a b => a.trans b⟩
  refine Nat.le_antisymm ?_ ?_
  · exact nc_le hE hE' (fun _ _ _ _ _ _ => rfl) (fun x => x / 4) (fun x hx _ => ⟨by show x / 4 < n; omega, rfl⟩) (fun x y _ _ _ _ e => e)
  · refine nc_le hE' hE (fun _ _ _ _ _ _ => rfl) (fun x => 4 * x) (fun x hx _ => ⟨by show 4 * x < 4 * n; omega, rfl⟩) (fun x y _ _ _ _ e => ?_)
    have e : Conn M (4 * x / 4) (4 * y / 4) := e
    rwa [show 4 * x / 4 = x from by omega, show 4 * y / 4 = y from by omega] at e
/-- A SPHERE STAYS ONE. -/
theorem sph (hs : Sph M n) : Sph M' (n - 1) := by
  have hm' := h.mates hm
  have hp := h.pp
  have hcn := h.cn
  have h0 := (sph_total hm).1 hs
  rw [sph_total hm']
  have hg := genus_total hm'
  -- the loops
  have hl1 := loops_all hm hp hw (-1) (by omega)
  have hr1 := h.rest_orb hm hw (-1) (by omega) (fun _ => true) (fun _ => true) (fun _ _ => rfl) (fun _ _ _ _ => rfl)
  have hr2 := h.rest_conn hm hw
  have hF := nc_split (OnOrb (stp M p c (-1))) (fun _ => true) (inn M p c) (4 * n)
  have hK := nc_split (Jd M p c) (fun _ => true) (inn M p c) (4 * n)
  have e1 : nc (OnOrb (stp M p c (-1))) (fun x => true && inn M p c x) (4 * n) = nc (OnOrb (stp M p c (-1))) (inn M p c) (4 * n) := nc_congr fun _ _ => Bool.true_and _
  have e2 : nc (OnOrb (stp M p c (-1))) (fun x => true && !inn M p c x) (4 * n) = nc (OnOrb (stp M p c (-1))) (fun x => !inn M p c x && true) (4 * n) := nc_congr fun _ _ => by rw [Bool.true_and, Bool.and_true]
  have e3 : nc (Jd M p c) (fun x => true && inn M p c x) (4 * n) = nc (Jd M p c) (inn M p c) (4 * n) := nc_congr fun _ _ => Bool.true_and _
  have e4 : nc (Jd M p c) (fun x => true && !inn M p c x) (4 * n) = nc (Jd M p c) (fun x => !inn M p c x) (4 * n) := nc_congr fun _ _ => Bool.true_and _
  have hFT' : FT M' (n - 1) = nc (OnOrb (fb M' (-1))) (fun _ => true) (4 * (n - 1)) := by
    rw [← nc_orb (f := fb M' (-1)) hm'.inj]
    unfold FT
    exact cnt_congr fun _ _ => by rw [Bool.and_true]; rfl
  have hCT' := ct_nc hm'
  have hCT := ct_nc hm
  have hC4 := ct_four hm
  -- the one crossing
  have hq0 : 4 * c + p < 4 * n := by omega
  have hq2 : tn (4 * c + p) 2 < 4 * n := tn_lt _ _ _ hq0
  have hq0c : (4 * c + p) / 4 = c := by omega
  have hq2c : tn (4 * c + p) 2 / 4 = c := by rw [tn_div]; exact hq0c
  have ha := hm.lt hq0
  have hb := hm.lt hq2
  have hab : mt M (4 * c + p) ≠ mt M (tn (4 * c + p) 2) := fun e => by
    have := congrArg (mt M) e
    rw [hm.inv hq0, hm.inv hq2] at this
    unfold tn at this; omega
  have hsw : ∀ x, x < 4 * n → True → swp (fc M) (mt M (4 * c + p)) (mt M (tn (4 * c + p) 2)) x = stp M p c (-1) x := fun x hx _ => by
    have f1 : fc M (mt M (4 * c + p)) = tn (4 * c + p) (-1) := by
      have : fc M (mt M (4 * c + p)) = tn (mt M (mt M (4 * c + p))) (-1) := rfl
      rw [this, hm.inv hq0]
    have f2 : fc M (mt M (tn (4 * c + p) 2)) = tn (tn (4 * c + p) 2) (-1) := by
      have : fc M (mt M (tn (4 * c + p) 2)) = tn (mt M (mt M (tn (4 * c + p) 2))) (-1) := rfl
      rw [this, hm.inv hq2]
    by_cases g1 : x = mt M (4 * c + p)
    · have g2 : mt M x = 4 * c + p := by rw [g1, hm.inv hq0]
      rw [stp_c (by rw [g2]; exact hq0c), g2, g1, swp_left, f2]
      unfold jn
      rw [if_pos (by omega), tn_tn _ _ _ (by omega) (by omega) (by omega)]; rfl
    · by_cases g2 : x = mt M (tn (4 * c + p) 2)
      · have g3 : mt M x = tn (4 * c + p) 2 := by rw [g2, hm.inv hq2]
        rw [stp_c (by rw [g3]; exact hq2c), g3, g2, swp_right, f1]
        unfold jn
        rw [if_pos (by unfold tn; omega), tn_tn _ _ _ (by omega) (by omega) (by omega), ← tn_four _ (-1) (by omega)]; rfl
      · rw [swp_other _ g1 g2]
        by_cases g3 : mt M x / 4 = c
        · rw [stp_c g3]
          have g4 : mt M x ≠ 4 * c + p := fun e => g1 (by rw [← e, hm.inv hx])
          have g5 : mt M x ≠ tn (4 * c + p) 2 := fun e => g2 (by rw [← e, hm.inv hx])
          unfold jn
          rw [if_neg (by unfold tn at g5; omega)]; rfl
        · rw [stp_n g3]; rfl
  have hsI := swp_inj hm.inj ha hb
  have hFo : nc (OnOrb (stp M p c (-1))) (fun _ => true) (4 * n) = nc (OnOrb (swp (fc M) (mt M (4 * c + p)) (mt M (tn (4 * c + p) 2)))) (fun _ => true) (4 * n) := by
    refine Nat.le_antisymm ?_ ?_
    · exact nc_le (orb_eqv (stp_inj hm hp (-1) (by omega))) (orb_eqv hsI) (fun _ _ _ _ _ _ => rfl) id (fun x hx _ => ⟨hx, rfl⟩) (fun x y hx _ _ _ e => (orb_congr hsI (fun _ => True) (fun _ _ _ => trivial) hsw hx trivial).1 e)
    · exact nc_le (orb_eqv hsI) (orb_eqv (stp_inj hm hp (-1) (by omega))) (fun _ _ _ _ _ _ => rfl) id (fun x hx _ => ⟨hx, rfl⟩) (fun x y hx _ _ _ e => (orb_congr hsI (fun _ => True) (fun _ _ _ => trivial) hsw hx trivial).2 e)
  have hFT : FT M n = cnt (fun x => leastB (fc M) (perOf (fc M) (4 * n)) x && true) (4 * n) := cnt_congr fun _ _ => by rw [Bool.and_true]
  have hFs := nc_orb hsI (fun _ => true)
  -- the parts
  have hJ := Jd.eqv (c := c) hm hp
  have hC : Eqv (fun x y => Conn M (x / 4) (y / 4)) (4 * n) := ⟨fun x _ => Conn.refl _ _, fun x y hx _ hc => hm.ok.conn_symm (by omega) hc, fun _ _ _ _ _ _ a b => a.trans b⟩
  have hat : ∀ z, z / 4 = c → Jd M p c z (4 * c + p) ∨ Jd M p c z (tn (4 * c + p) 2) := fun z hz => by
    have hzn : z < 4 * n := by omega
    rcases four_of p (y := 4 * c + p) (z := z) (by omega) with e | e | e | e
    · rw [e]; exact .inl (Jd.refl _)
    · rw [e]
      have := (Jd.refl (M := M) (p := p) (c := c) (jn p (4 * c + p))).join (by rw [jn_div]; exact hq0c)
      rw [jn_jn hp] at this
      exact .inl this
    · rw [e]; exact .inr (Jd.refl _)
    · rw [e, ← jn_tn2]
      have := (Jd.refl (M := M) (p := p) (c := c) (jn p (tn (4 * c + p) 2))).join (by rw [jn_div]; exact hq2c)
      rw [jn_jn hp] at this
      exact .inr this
  have htie := nc_tie hJ hC hq0 hq2 (fun x y hx hy hc => by
    have key := hc (fun d => d < n ∧ ∀ z, z / 4 = d → (Jd M p c x z ∨ ((Jd M p c x (4 * c + p) ∨ Jd M p c x (tn (4 * c + p) 2)) ∧ (Jd M p c z (4 * c + p) ∨ Jd M p c z (tn (4 * c + p) 2))))) ⟨by omega, fun z hz => by
      by_cases hxc : x / 4 = c
      · exact .inr ⟨hat x hxc, hat z (by omega)⟩
      · exact .inl ((Jd.refl x).cross hxc (by omega))⟩ (fun d e ⟨hd, hq⟩ hde => by
      refine ⟨hm.ok.adj_lt hd hde, fun z hz => ?_⟩
      obtain ⟨s, hs, rfl⟩ := hde
      have h4 : 4 * d + s < 4 * n := by omega
      have h1 := hq (4 * d + s) (by omega)
      have hz2 : z / 4 = mt M (4 * d + s) / 4 := hz
      have hmm := hm.lt h4
      have hb2 : Jd M p c (mt M (4 * d + s)) (4 * d + s) := by
        have := (Jd.refl (M := M) (p := p) (c := c) (mt M (4 * d + s))).mate
        rwa [hm.inv h4] at this
      by_cases hzc : z / 4 = c
      · have hzz := hat z hzc
        have hmz := hat (mt M (4 * d + s)) (by omega)
        rcases h1 with h1 | ⟨h1, h2⟩
        · refine .inr ⟨?_, hzz⟩
          have h3 := h1.mate
          rcases hmz with g | g
          · exact .inl (h3.trans g)
          · exact .inr (h3.trans g)
        · exact .inr ⟨h1, hzz⟩
      · rcases h1 with h1 | ⟨h1, h2⟩
        · exact .inl ((h1.mate).cross (by omega) hz2)
        · refine .inr ⟨h1, ?_⟩
          have h3 : Jd M p c z (4 * d + s) := ((Jd.refl z).cross hzc hz2.symm).trans hb2
          rcases h2 with g | g
          · exact .inl (h3.trans g)
          · exact .inr (h3.trans g))
    exact key.2 y rfl)
  by_cases hor : OnOrb (fc M) (mt M (4 * c + p)) (mt M (tn (4 * c + p) 2))
  · have hsp := split_count hm.inj ha hb hab hor (fun _ => true) (fun _ _ => rfl) rfl rfl
    have := htie.1
    omega
  · have hmg := merge_count hm.inj ha hb hor (fun _ => true) (fun _ _ => rfl) rfl rfl
    have ho := merge_ab hm.inj hb hor
    have ho2 := (orb_congr hsI (fun _ => True) (fun _ _ _ => trivial) hsw ha trivial).1 ho
    have hj := Jd.orb (-1) ho2
    have hj2 : Jd M p c (4 * c + p) (tn (4 * c + p) 2) := by
      have := ((Jd.refl (M := M) (p := p) (c := c) (4 * c + p)).mate).trans (hj.mate)
      rwa [hm.inv hq2] at this
    have := htie.2 hj2
    omega
end Sm
end Go.Proofs.YtmhhjchnjaefhaaDoor


