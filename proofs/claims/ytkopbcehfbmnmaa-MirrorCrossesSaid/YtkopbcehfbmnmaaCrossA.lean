/- Plain laws: two crossings smoothed, in either order. -/
import Derived.Test.YtkopbcehfbmnmaaSmoothC
import Derived.Test.YtkopbcehfbmnmaaMirB
namespace Go.Proofs.Ytkopbcehfbmnmaa
open Go Go.RowKit
/-- The number of b where a is left out. -/
def bk (a b : Nat) : Nat := if b > a then b - 1 else b
theorem bk_del {a b : Nat} (h : a ≠ b) : del a (bk a b) = b := by unfold del bk; split <;> split <;> omega
theorem bk_lt {a b n : Nat} (h : a ≠ b) (ha : a < n) (hb : b < n) : bk a b < n - 1 := by unfold bk; split <;> omega
theorem up_div (a h : Nat) : up a h / 4 = del a (h / 4) := by unfold up del; split <;> omega
theorem up_mod (a h : Nat) : up a h % 4 = h % 4 := by unfold up; split <;> omega
theorem up_at {a b h : Nat} (hab : a ≠ b) : up a h / 4 = b ↔ h / 4 = bk a b := by rw [up_div]; unfold del bk; split <;> split <;> omega
theorem up_jn (a p h : Nat) : up a (jn p h) = jn p (up a h) := by
  have hm := up_mod a h
  unfold jn
  by_cases e : h % 2 = p
  · rw [if_pos e, if_pos (by omega), up_tn]
  · rw [if_neg e, if_neg (by omega), up_tn]
theorem up_up {a b : Nat} (_ : a ≠ b) (x : Nat) : up a (up (bk a b) x) = up b (up (bk b a) x) := by
  unfold up bk
  repeat' split
  all_goals omega
section
variable {M : List Int} {n : Nat} (hm : Mates M n) {pa a pb b : Nat}
/-- A way through a and b. -/
def g2 (M : List Int) (pa a pb m : Nat) : Nat := mt M (if m / 4 = a then jn pa m else jn pb m)
theorem g2_at {M : List Int} {pa a pb m : Nat} (h : m / 4 = a) : g2 M pa a pb m = mt M (jn pa m) := by unfold g2; rw [if_pos h]
theorem g2_ne {M : List Int} {pa a pb m : Nat} (h : m / 4 ≠ a) : g2 M pa a pb m = mt M (jn pb m) := by unfold g2; rw [if_neg h]
def Rch (M : List Int) (pa a pb b m r : Nat) : Prop := ∃ k, r = iter (g2 M pa a pb) k m ∧ ∀ i, i < k → (iter (g2 M pa a pb) i m / 4 = a ∨ iter (g2 M pa a pb) i m / 4 = b)
theorem Rch.refl (M : List Int) (pa a pb b m : Nat) : Rch M pa a pb b m m := ⟨0, rfl, fun i h => absurd h (Nat.not_lt_zero i)⟩
theorem Rch.trans {m r s : Nat} (h1 : Rch M pa a pb b m r) (h2 : Rch M pa a pb b r s) : Rch M pa a pb b m s := by
  obtain ⟨k, rfl, hk⟩ := h1
  obtain ⟨l, rfl, hl⟩ := h2
  refine ⟨l + k, (iter_add _ l k m).symm, fun i hi => ?_⟩
  rcases Nat.lt_or_ge i k with h | h
  · exact hk i h
  · have := hl (i - k) (by omega)
    rwa [← iter_add, show i - k + k = i from by omega] at this
theorem Rch.step {m : Nat} (h : m / 4 = a ∨ m / 4 = b) : Rch M pa a pb b m (g2 M pa a pb m) := by
  refine ⟨1, rfl, fun i hi => ?_⟩
  obtain rfl : i = 0 := by omega
  exact h
theorem Rch.exit {m r s : Nat} (h1 : Rch M pa a pb b m r) (h2 : Rch M pa a pb b m s) (hr : r / 4 ≠ a ∧ r / 4 ≠ b) (hs : s / 4 ≠ a ∧ s / 4 ≠ b) : r = s := by
  obtain ⟨k, rfl, hk⟩ := h1
  obtain ⟨l, rfl, hl⟩ := h2
  rcases Nat.lt_trichotomy k l with h | h | h
  · have := hl k h; omega
  · rw [h]
  · have := hk l h; omega
theorem Rch.swap (hab : a ≠ b) {m r : Nat} (h : Rch M pa a pb b m r) : Rch M pb b pa a m r := by
  obtain ⟨k, rfl, hk⟩ := h
  have key : ∀ i, i ≤ k → iter (g2 M pb b pa) i m = iter (g2 M pa a pb) i m := by
    intro i
    induction i with
    | zero => intro _; rfl
    | succ i ih =>
      intro hi
      rw [iter_succ, iter_succ, ih (by omega)]
      have := hk i (by omega)
      rcases this with e | e
      · rw [g2_at e, g2_ne (by omega)]
      · rw [g2_at e, g2_ne (by omega)]
  refine ⟨k, (key k (Nat.le_refl _)).symm, fun i hi => ?_⟩
  rw [key i (by omega)]
  exact (hk i hi).symm
theorem Rch.thr (m : Nat) : Rch M pa a pb b m (thr M pa a m) := by
  have key : ∀ i, i ≤ pas M pa a m → iter (g2 M pa a pb) i m = iter (gst M pa) i m := by
    intro i
    induction i with
    | zero => intro _; rfl
    | succ i ih =>
      intro hi
      rw [iter_succ, iter_succ, ih (by omega)]
      rw [g2_at (pas_in M pa a m i (by omega))]; rfl
  refine ⟨pas M pa a m, ?_, fun i hi => ?_⟩
  · rw [key _ (Nat.le_refl _), pas_thr]
  · rw [key i (by omega)]
    exact .inl (pas_in M pa a m i hi)
include hm
variable {M' : List Int} (h : Sm M M' n pa a) (hab : a ≠ b) (hpb : pb = 0 ∨ pb = 1)
include h hab hpb
/-- The mates behind two smoothings. -/
theorem two_mate {x : Nat} (hx : x < 4 * (n - 1 - 1)) : Rch M pa a pb b (mt M (up a (up (bk a b) x))) (up a (thr M' pb (bk a b) (mt M' (up (bk a b) x)))) ∧ thr M' pb (bk a b) (mt M' (up (bk a b) x)) / 4 ≠ bk a b ∧ thr M' pb (bk a b) (mt M' (up (bk a b) x)) < 4 * (n - 1) := by
  have hm' := h.mates hm
  have hu : up (bk a b) x < 4 * (n - 1) := up_lt hx
  have hmu := hm'.lt hu
  refine ⟨?_, thr_out hm' hpb hu (up_out _ x), thr_lt hm' hmu⟩
  have h0 : Rch M pa a pb b (mt M (up a (up (bk a b) x))) (up a (mt M' (up (bk a b) x))) := by
    rw [h.up_mate hm hu]; exact Rch.thr _
  have one : ∀ m', m' < 4 * (n - 1) → m' / 4 = bk a b → Rch M pa a pb b (up a m') (up a (mt M' (jn pb m'))) := fun m' hl hc => by
    have h1 : Rch M pa a pb b (up a m') (g2 M pa a pb (up a m')) := Rch.step (.inr ((up_at hab).2 hc))
    refine h1.trans ?_
    rw [h.up_mate hm (jn_lt hl), up_jn]
    rw [g2_ne (up_out a m')]
    exact Rch.thr _
  refine h0.trans ?_
  unfold Proofs.Ytkopbcehfbmnmaa.thr
  by_cases c1 : mt M' (up (bk a b) x) / 4 = bk a b
  · rw [if_pos c1]
    have s1 := one _ hmu c1
    have hl1 := hm'.lt (jn_lt (p := pb) hmu)
    by_cases c2 : mt M' (jn pb (mt M' (up (bk a b) x))) / 4 = bk a b
    · rw [if_pos c2]
      exact s1.trans (one _ hl1 c2)
    · rw [if_neg c2]; exact s1
  · rw [if_neg c1]; exact Rch.refl _ _ _ _ _ _
end
/-- One step: along the edge; at a and b along the joins. -/
def st2 (M : List Int) (pa a pb b : Nat) (t : Int) (y : Nat) : Nat := if mt M y / 4 = a then jn pa (mt M y) else if mt M y / 4 = b then jn pb (mt M y) else tn (mt M y) t
theorem st2_swap {M : List Int} {pa a pb b : Nat} (hab : a ≠ b) (t : Int) : st2 M pa a pb b t = st2 M pb b pa a t := by
  funext y
  unfold st2
  by_cases h1 : mt M y / 4 = a
  · rw [if_pos h1, if_neg (by omega), if_pos h1]
  · rw [if_neg h1]
    by_cases h2 : mt M y / 4 = b
    · rw [if_pos h2, if_pos h2]
    · rw [if_neg h2, if_neg h2, if_neg h1]
theorem st2_at {M : List Int} {pa a pb b : Nat} {t : Int} {y : Nat} (h : mt M y / 4 = a) : st2 M pa a pb b t y = jn pa (mt M y) := by unfold st2; rw [if_pos h]
theorem st2_div {M : List Int} {pa a pb b : Nat} (t : Int) (y : Nat) : st2 M pa a pb b t y / 4 = mt M y / 4 := by
  unfold st2
  split
  · exact jn_div _ _
  · split
    · exact jn_div _ _
    · exact tn_div _ _
section
variable {M M' : List Int} {n pa a pb b : Nat} (hm : Mates M n) (h : Sm M M' n pa a) (hab : a ≠ b) (hpb : pb = 0 ∨ pb = 1)
include hm h hpb
theorem st2_inj (t : Int) (ht : -4 ≤ t) : Inj (st2 M pa a pb b t) (4 * n) := by
  refine ⟨fun x hx => by have := st2_div (M := M) (pa := pa) (a := a) (pb := pb) (b := b) t x; have := hm.lt hx; omega, fun x y hx hy e => ?_⟩
  have hd : mt M x / 4 = mt M y / 4 := by rw [← st2_div (M := M) (pa := pa) (a := a) (pb := pb) (b := b) t x, e, st2_div]
  have hmm : mt M x = mt M y := by
    unfold st2 at e
    rw [hd] at e
    by_cases h1 : mt M y / 4 = a
    · rw [if_pos h1, if_pos h1] at e; exact jn_inj h.pp e
    · rw [if_neg h1, if_neg h1] at e
      by_cases h2 : mt M y / 4 = b
      · rw [if_pos h2, if_pos h2] at e; exact jn_inj hpb e
      · rw [if_neg h2, if_neg h2] at e; exact tn_inj ht e
  rw [← hm.inv hx, hmm, hm.inv hy]
omit hpb in
/-- The first return. -/
theorem st2_first (t : Int) {w : Nat} (hw : w < 4 * n) (hwa : w / 4 ≠ a) : ∃ k, 0 < k ∧ (if thr M pa a (mt M w) / 4 = b then jn pb (thr M pa a (mt M w)) else tn (thr M pa a (mt M w)) t) = iter (st2 M pa a pb b t) k w ∧ ∀ i, 0 < i → i < k → iter (st2 M pa a pb b t) i w / 4 = a := by
  have key : ∀ i, i ≤ pas M pa a (mt M w) → mt M (iter (st2 M pa a pb b t) i w) = iter (gst M pa) i (mt M w) ∧ (0 < i → iter (st2 M pa a pb b t) i w / 4 = a) := by
    intro i
    induction i with
    | zero => intro _; exact ⟨rfl, fun h => absurd h (Nat.lt_irrefl 0)⟩
    | succ i ih =>
      intro hi
      obtain ⟨h1, _⟩ := ih (by omega)
      have h2 := pas_in M pa a (mt M w) i (by omega)
      have h3 : st2 M pa a pb b t (iter (st2 M pa a pb b t) i w) = jn pa (iter (gst M pa) i (mt M w)) := by
        have : st2 M pa a pb b t (iter (st2 M pa a pb b t) i w) = if mt M (iter (st2 M pa a pb b t) i w) / 4 = a then jn pa (mt M (iter (st2 M pa a pb b t) i w)) else if mt M (iter (st2 M pa a pb b t) i w) / 4 = b then jn pb (mt M (iter (st2 M pa a pb b t) i w)) else tn (mt M (iter (st2 M pa a pb b t) i w)) t := rfl
        rw [this, h1, if_pos h2]
      rw [iter_succ, iter_succ, h3]
      exact ⟨rfl, fun _ => by rw [jn_div]; exact h2⟩
  obtain ⟨h1, _⟩ := key _ (Nat.le_refl _)
  rw [pas_thr] at h1
  have ho := thr_out hm h.pp hw hwa
  refine ⟨pas M pa a (mt M w) + 1, by omega, ?_, fun i h0 hi => (key i (by omega)).2 h0⟩
  have : st2 M pa a pb b t (iter (st2 M pa a pb b t) (pas M pa a (mt M w)) w) = if mt M (iter (st2 M pa a pb b t) (pas M pa a (mt M w)) w) / 4 = a then jn pa (mt M (iter (st2 M pa a pb b t) (pas M pa a (mt M w)) w)) else if mt M (iter (st2 M pa a pb b t) (pas M pa a (mt M w)) w) / 4 = b then jn pb (mt M (iter (st2 M pa a pb b t) (pas M pa a (mt M w)) w)) else tn (mt M (iter (st2 M pa a pb b t) (pas M pa a (mt M w)) w)) t := rfl
  rw [iter_succ, this, h1, if_neg ho]
include hab
omit hpb in
theorem st2_orb (t : Int) {x y : Nat} (hx : x < 4 * (n - 1)) (hy : y < 4 * (n - 1)) : OnOrb (stp M' pb (bk a b) t) x y ↔ OnOrb (st2 M pa a pb b t) (up a x) (up a y) := by
  have hm' := h.mates hm
  have hst : ∀ z, z < 4 * (n - 1) → up a (stp M' pb (bk a b) t z) = if thr M pa a (mt M (up a z)) / 4 = b then jn pb (thr M pa a (mt M (up a z))) else tn (thr M pa a (mt M (up a z))) t := fun z hz => by
    have e := h.up_mate hm hz
    unfold stp
    by_cases c : mt M' z / 4 = bk a b
    · have := (up_at (h := mt M' z) hab).2 c
      rw [e] at this
      rw [if_pos c, if_pos this, up_jn, e]
    · have : ¬ thr M pa a (mt M (up a z)) / 4 = b := fun g => c ((up_at (h := mt M' z) hab).1 (by rw [e]; exact g))
      rw [if_neg c, if_neg this, up_tn, e]
  have hlt : ∀ z, z < 4 * (n - 1) → stp M' pb (bk a b) t z < 4 * (n - 1) := fun z hz => stp_lt hm' hz
  have hit : ∀ k z, z < 4 * (n - 1) → up a (iter (stp M' pb (bk a b) t) k z) = iter (fun w => if thr M pa a (mt M w) / 4 = b then jn pb (thr M pa a (mt M w)) else tn (thr M pa a (mt M w)) t) k (up a z) := fun k z hz => by
    induction k with
    | zero => rfl
    | succ k ih => rw [iter_succ, iter_succ, hst _ (iter_lt _ _ hlt k z hz), ih]
  have h1 := induced_orb (f := st2 M pa a pb b t) (g := fun w => if thr M pa a (mt M w) / 4 = b then jn pb (thr M pa a (mt M w)) else tn (thr M pa a (mt M w)) t) (U := fun w => w < 4 * n ∧ w / 4 ≠ a) (fun w ⟨hw, hwc⟩ => by
    have ho := thr_out hm h.pp hw hwc
    have hl := thr_lt hm (hm.lt hw) (p := pa) (c := a)
    obtain ⟨k, e1, e2, e3⟩ := st2_first hm h t hw hwc
    refine ⟨?_, k, e1, e2, fun i hi hik e => e.2 (e3 i hi hik)⟩
    show (if _ then _ else _) < 4 * n ∧ (if _ then _ else _) / 4 ≠ a
    split
    · exact ⟨jn_lt hl, by rw [jn_div]; exact ho⟩
    · exact ⟨tn_lt _ _ _ hl, by rw [tn_div]; exact ho⟩) (x := up a x) (y := up a y) ⟨up_lt hx, up_out a x⟩ ⟨up_lt hy, up_out a y⟩
  rw [← h1]
  constructor
  · rintro ⟨k, rfl⟩
    exact ⟨k, (hit k x hx).symm⟩
  · rintro ⟨k, hk⟩
    refine ⟨k, up_inj (c := a) ?_⟩
    rw [hit k x hx]; exact hk
variable {o : Nat → Bool} (hw : Way M n pa a o)
include hw
omit hab hpb in
theorem st2_meets (t : Int) {x : Nat} (hx : x < 4 * n) (hi : inn M pa a x = false) : ∃ z, z < 4 * n ∧ z / 4 ≠ a ∧ OnOrb (st2 M pa a pb b t) x z := by
  have hmn : ∃ k, (iter (stp M pa a t) k x) / 4 ≠ a := by
    obtain ⟨z, _, hz, k, hk⟩ := meets hm h.pp hw t hx hi
    exact ⟨k, by rw [hk]; exact hz⟩
  have hex : ∃ k, (iter (stp M pa a t) k x) / 4 ≠ a ∧ ∀ i, i < k → iter (stp M pa a t) i x / 4 = a := by
    obtain ⟨k, hk⟩ := hmn
    induction k using Nat.strongRecOn with
    | ind k ih =>
      by_cases g : ∃ i, i < k ∧ iter (stp M pa a t) i x / 4 ≠ a
      · obtain ⟨i, hi, hq⟩ := g
        exact ih i hi hq
      · exact ⟨k, hk, fun i hi => Classical.byContradiction fun e => g ⟨i, hi, e⟩⟩
  obtain ⟨k, hk, hlow⟩ := hex
  have hsd : ∀ y, stp M pa a t y / 4 = mt M y / 4 := fun y => by unfold stp; split; exact jn_div _ _; exact tn_div _ _
  have key : ∀ i, i < k → iter (st2 M pa a pb b t) i x = iter (stp M pa a t) i x := by
    intro i
    induction i with
    | zero => intro _; rfl
    | succ i ih =>
      intro hi
      rw [iter_succ, iter_succ, ih (by omega)]
      have h1 := hlow (i + 1) hi
      rw [iter_succ, hsd] at h1
      rw [st2_at h1, stp_c h1]
  refine ⟨iter (st2 M pa a pb b t) k x, iter_lt _ _ (fun z hz => by have := st2_div (M := M) (pa := pa) (a := a) (pb := pb) (b := b) t z; have := hm.lt hz; omega) k x hx, ?_, k, rfl⟩
  cases k with
  | zero => exact hk
  | succ k =>
    rw [iter_succ, hsd] at hk
    rw [iter_succ, key k (by omega), st2_div]; exact hk
theorem st2_count (t : Int) (ht : -4 ≤ t) (P P' : Nat → Bool) (hPP : ∀ x, x < 4 * (n - 1) → P' x = P (up a x)) (hP : ∀ x, x < 4 * n → P (st2 M pa a pb b t x) = P x) :
    nc (OnOrb (st2 M pa a pb b t)) P (4 * n) = nc (OnOrb (stp M pa a t)) (fun x => inn M pa a x && P x) (4 * n) + nc (OnOrb (stp M' pb (bk a b) t)) P' (4 * (n - 1)) := by
  have hm' := h.mates hm
  have hp := h.pp
  have h2 := st2_inj hm h hpb (b := b) t ht
  have h1 := stp_inj hm hp (c := a) t ht
  have h3 := stp_inj hm' hpb (c := bk a b) t ht
  have hPo : ∀ x y, x < 4 * n → OnOrb (st2 M pa a pb b t) x y → P y = P x := by
    rintro x y hx ⟨k, rfl⟩
    induction k with
    | zero => rfl
    | succ k ih => rw [iter_succ, hP _ (iter_lt _ _ h2.lt k x hx), ih]
  have hsame : ∀ x, x < 4 * n → inn M pa a x = true → st2 M pa a pb b t x = stp M pa a t x := fun x hx hi => by
    have hc : mt M x / 4 = a := by
      obtain ⟨e1, e2⟩ := inn_iff.1 hi
      rcases e2 with e | e
      · rw [e, jn_div]; exact e1
      · rw [e.1, tn_div]; exact e1
    rw [st2_at hc, stp_c hc]
  have hcl : ∀ x, x < 4 * n → inn M pa a x = true → inn M pa a (st2 M pa a pb b t x) = true := fun x hx hi => by
    rw [hsame x hx hi, inn_eq hm hp hx (Jd.stp t)]; exact hi
  have hclo : ∀ x y, x < 4 * n → OnOrb (st2 M pa a pb b t) x y → inn M pa a x = true → inn M pa a y = true := by
    rintro x y hx ⟨k, rfl⟩ hi
    induction k with
    | zero => exact hi
    | succ k ih => rw [iter_succ]; exact hcl _ (iter_lt _ _ h2.lt k x hx) ih
  have hinno : ∀ x y, x < 4 * n → OnOrb (st2 M pa a pb b t) x y → inn M pa a y = inn M pa a x := fun x y hx ho => by
    rw [Bool.eq_iff_iff]
    exact ⟨hclo y x (onOrb_lt h2 hx ho) (onOrb_symm h2 hx ho), hclo x y hx ho⟩
  have hcg : ∀ x y, x < 4 * n → inn M pa a x = true → (OnOrb (st2 M pa a pb b t) x y ↔ OnOrb (stp M pa a t) x y) := fun x y hx hi =>
    orb_congr h2 (fun z => inn M pa a z = true) hcl hsame hx hi
  rw [nc_split (OnOrb (st2 M pa a pb b t)) P (inn M pa a)]
  have e1 : nc (OnOrb (st2 M pa a pb b t)) (fun x => P x && inn M pa a x) (4 * n) = nc (OnOrb (stp M pa a t)) (fun x => inn M pa a x && P x) (4 * n) := by
    refine Nat.le_antisymm ?_ ?_
    · refine nc_le (orb_eqv h2) (orb_eqv h1) (fun x y hx hy ho hpx => ?_) id (fun x hx hpx => ⟨hx, ?_⟩) (fun x y hx _ hpx _ e => ?_)
      · rw [Bool.and_eq_true] at hpx ⊢
        have := (hcg x y hx hpx.1).2 ho
        rw [hinno x y hx this, hPo x y hx this]; exact hpx
      · rw [Bool.and_eq_true] at hpx ⊢; exact ⟨hpx.2, hpx.1⟩
      · rw [Bool.and_eq_true] at hpx
        exact (hcg x y hx hpx.2).2 e
    · refine nc_le (orb_eqv h1) (orb_eqv h2) (fun x y hx hy ho hpx => ?_) id (fun x hx hpx => ⟨hx, ?_⟩) (fun x y hx _ hpx _ e => ?_)
      · rw [hinno x y hx ho, hPo x y hx ho]; exact hpx
      · rw [Bool.and_eq_true] at hpx ⊢; exact ⟨hpx.2, hpx.1⟩
      · rw [Bool.and_eq_true] at hpx
        exact (hcg x y hx hpx.1).1 e
  have e2 : nc (OnOrb (st2 M pa a pb b t)) (fun x => P x && !inn M pa a x) (4 * n) = nc (OnOrb (stp M' pb (bk a b) t)) P' (4 * (n - 1)) := by
    refine Nat.le_antisymm ?_ ?_
    · have hex : ∀ x, ∃ z, x < 4 * n → inn M pa a x = false → (z < 4 * n ∧ z / 4 ≠ a ∧ OnOrb (st2 M pa a pb b t) x z) := fun x => by
        by_cases hx : x < 4 * n ∧ inn M pa a x = false
        · obtain ⟨z, hz⟩ := st2_meets hm h hw t hx.1 hx.2
          exact ⟨z, fun _ _ => hz⟩
        · exact ⟨0, fun a b => absurd ⟨a, b⟩ hx⟩
      obtain ⟨ch, hch⟩ := Classical.axiomOfChoice hex
      refine nc_le (orb_eqv h2) (orb_eqv h3) (fun x y hx hy ho hpx => ?_) (fun x => dn a (ch x)) (fun x hx hpx => ?_) (fun x y hx hy hpx hpy ho => ?_)
      · rw [hPP y hy, hPo _ _ (up_lt hx) ((st2_orb hm h hab t hx hy).1 ho), ← hPP x hx]; exact hpx
      · rw [Bool.and_eq_true, Bool.not_eq_true'] at hpx
        obtain ⟨q1, q2, q3⟩ := hch x hx hpx.2
        have hl := dn_lt h.cn q1 q2
        refine ⟨hl, ?_⟩
        rw [hPP _ hl, up_dn q2, hPo x _ hx q3]; exact hpx.1
      · rw [Bool.and_eq_true, Bool.not_eq_true'] at hpx hpy
        obtain ⟨q1, q2, q3⟩ := hch x hx hpx.2
        obtain ⟨r1, r2, r3⟩ := hch y hy hpy.2
        have := (st2_orb hm h hab t (dn_lt h.cn q1 q2) (dn_lt h.cn r1 r2)).1 ho
        rw [up_dn q2, up_dn r2] at this
        exact onOrb_trans (onOrb_trans q3 this) (onOrb_symm h2 hy r3)
    · refine nc_le (orb_eqv h3) (orb_eqv h2) (fun x y hx hy ho hpx => ?_) (up a) (fun x hx hpx => ?_) (fun x y hx hy _ _ ho => (st2_orb hm h hab t hx hy).2 ho)
      · rw [Bool.and_eq_true, Bool.not_eq_true'] at hpx ⊢
        rw [hinno x y hx ho, hPo x y hx ho]; exact hpx
      · refine ⟨up_lt hx, ?_⟩
        have : inn M pa a (up a x) = false := by
          rw [← Bool.not_eq_true, inn_iff]
          exact fun e => up_out a x e.1
        rw [this, ← hPP x hx, hpx]; rfl
  rw [e1, e2]
end
section
variable {S M : List Int} {L : Int} (hv : vldB S M L = true) {a b : Nat} (ha : a < S.length) (hb : b < S.length) (hab : a ≠ b)
include hv ha hb hab
omit hv in
theorem smS_two : smS (smS S a) (bk a b) = smS (smS S b) (bk b a) := by
  have l1 := smS_len S a ha
  have l2 := smS_len S b hb
  have q1 := bk_lt hab ha hb
  have q2 := bk_lt (fun e => hab e.symm) hb ha
  refine ext_range (n := S.length - 1 - 1) (by rw [smS_len _ _ (by rw [l1]; exact q1), l1]) (by rw [smS_len _ _ (by rw [l2]; exact q2), l2]) fun i hi => ?_
  show nth ((S.eraseIdx a).eraseIdx (bk a b)) i = nth ((S.eraseIdx b).eraseIdx (bk b a)) i
  rw [nth_erase, nth_erase, nth_erase, nth_erase]
  congr 1
  unfold del bk
  repeat' split
  all_goals omega
omit hv ha hb in
theorem pS_two : pS (smS S a) (bk a b) = pS S b := by
  unfold pS
  show (if nth (S.eraseIdx a) (bk a b) = -1 then 1 else 0) = _
  rw [nth_erase, bk_del hab]
/-- SMOOTHING TWO CROSSINGS IN EITHER ORDER: the mates. -/
theorem smM_two : smM (smS S a) (smM S M a) (bk a b) = smM (smS S b) (smM S M b) (bk b a) := by
  have hs := vldB_shape hv
  have hm := hs.mates2
  have hba : b ≠ a := fun e => hab e.symm
  have l1 := smS_len S a ha
  have l2 := smS_len S b hb
  have hA := sm_sm (M := M) ha
  have hB := sm_sm (M := M) hb
  refine ext_range (n := 4 * (S.length - 1 - 1)) (by rw [smM_len, l1]) (by rw [smM_len, l2]) fun x hx => ?_
  rw [nth_smM _ _ _ _ (by rw [l1]; exact hx), nth_smM _ _ _ _ (by rw [l2]; exact hx), pS_two hab, pS_two hba]
  obtain ⟨a1, a2, a3⟩ := two_mate hm hA hab (pS_pp S b) hx
  obtain ⟨b1, b2, b3⟩ := two_mate hm hB hba (pS_pp S a) hx
  generalize thr (smM S M a) (pS S b) (bk a b) (mt (smM S M a) (up (bk a b) x)) = z1 at *
  generalize thr (smM S M b) (pS S a) (bk b a) (mt (smM S M b) (up (bk b a) x)) = z2 at *
  rw [← up_up hab] at b1
  have he : up a z1 = up b z2 := a1.exit (b1.swap hba) ⟨up_out a z1, fun e => a2 ((up_at hab).1 e)⟩ ⟨fun e => b2 ((up_at hba).1 e), up_out b z2⟩
  have e1 : up a (up (bk a b) (dn (bk a b) z1)) = up a z1 := by rw [up_dn a2]
  have e2 : up b (up (bk b a) (dn (bk b a) z2)) = up b z2 := by rw [up_dn b2]
  rw [← up_up hab] at e2
  have := up_inj (up_inj ((e1.trans he).trans e2.symm))
  rw [this]
end
end Go.Proofs.Ytkopbcehfbmnmaa
