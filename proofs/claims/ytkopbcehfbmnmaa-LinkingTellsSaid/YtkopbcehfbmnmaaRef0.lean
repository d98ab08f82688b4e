/- Plain law: what the reference's Face, Faces, Strands, Label compute. -/
import Derived.Test.YtkopbcehfbmnmaaLabel1
namespace Go.Proofs.Ytkopbcehfbmnmaa
open Go Go.RowKit
/-- The step along the mate and b slots further. -/
def fb (M : List Int) (b : Int) (h : Nat) : Nat := tn (nth M h).toNat b
theorem MateOk.injB {M : List Int} {n : Nat} (hm : MateOk M n) (b : Int) (b0 : -8 ≤ b) : Inj (fb M b) (4 * n) := by
  refine ⟨fun x hx => tn_lt _ _ _ (by have := hm.lt x hx; omega), fun x y hx hy he => ?_⟩
  have h1 := hm.lt x hx
  have h2 := hm.lt y hy
  have h3 := hm.inv x hx
  have h4 := hm.inv y hy
  have h5 : (nth M x).toNat = (nth M y).toNat := by
    unfold fb tn at he
    omega
  rw [h5] at h3
  omega
/-- Is h the least of its cycle? -/
def leastB (f per : Nat → Nat) (h : Nat) : Bool := (orb f h (per h)).all fun g => decide (h ≤ g)
/-- The first j of the cycle are no less than h. -/
def leastTo (f : Nat → Nat) (h j : Nat) : Bool := (orb f h j).all fun g => decide (h ≤ g)
theorem leastTo_succ (f : Nat → Nat) (h j : Nat) : leastTo f h (j + 1) = (leastTo f h j && decide (h ≤ iter f j h)) := by
  unfold leastTo; rw [orb_succ, List.all_append]; simp
/-- The cycles of the wanted numbers below k, each from its least element. -/
def clTo (f per : Nat → Nat) (wb : Nat → Bool) (k : Nat) : List (List Nat) := ((List.range k).filter fun h => wb h && leastB f per h).map fun h => orb f h (per h)
theorem clTo_succ (f per : Nat → Nat) (wb : Nat → Bool) (k : Nat) : clTo f per wb (k + 1) = if (wb k && leastB f per k) = true then clTo f per wb k ++ [orb f k (per k)] else clTo f per wb k := by
  unfold clTo
  rw [List.range_succ, List.filter_append]
  by_cases h : (wb k && leastB f per k) = true <;> simp [h]
theorem clTo_len (f per : Nat → Nat) (wb : Nat → Bool) (k : Nat) : (clTo f per wb k).length ≤ k := by
  unfold clTo
  rw [List.length_map]
  have := List.length_filter_le (fun h => wb h && leastB f per h) (List.range k)
  simpa using this
/-- cycles gives just these. -/
theorem cyTo_marks {f per : Nat → Nat} {N : Nat} (hf : Inj f N) (hp : ∀ x, x < N → IsPer f x (per x)) (wb : Nat → Bool) (hw : ∀ x, x < N → wb (f x) = wb x) (k : Nat) (hk : k ≤ N) :
    (∀ y, y < N → (bth (cyTo f per wb N k).1 y = true ↔ wb y = true ∧ ∃ x, x < k ∧ OnOrb f x y)) ∧ (cyTo f per wb N k).2 = clTo f per wb k := by
  have hwo : ∀ x y, x < N → OnOrb f x y → wb y = wb x := by
    rintro x y hx ⟨j, rfl⟩
    induction j with
    | zero => rfl
    | succ j ih => rw [iter_succ, hw _ (iter_lt f N hf.lt j x hx), ih]
  induction k with
  | zero =>
    refine ⟨fun y hy => ?_, by simp [cyTo, clTo]⟩
    have : bth (cyTo f per wb N 0).1 y = false := by simp [cyTo, bth, hy]
    rw [this]
    simp
  | succ k ih =>
    obtain ⟨i1, i2⟩ := ih (by omega)
    have hl := cyTo_len1 f per wb N k
    have hkN : k < N := by omega
    rw [cyTo, cyRound, clTo_succ]
    have hseen := i1 k hkN
    have hleast : wb k = true → (leastB f per k = true ↔ ¬ bth (cyTo f per wb N k).1 k = true) := by
      intro hwk
      rw [hseen]
      unfold leastB
      rw [List.all_eq_true]
      constructor
      · rintro h ⟨_, x, hx, ho⟩
        have := h x ((mem_orb (hp k hkN)).2 (onOrb_symm hf (by omega) ho))
        simp at this
        omega
      · intro h g hg
        rw [mem_orb (hp k hkN)] at hg
        simp only [decide_eq_true_eq]
        rcases Nat.lt_or_ge g k with h2 | h2
        · exact absurd ⟨hwk, g, h2, onOrb_symm hf hkN hg⟩ h
        · exact h2
    by_cases hs : bth (cyTo f per wb N k).1 k = true
    · rw [if_pos hs]
      have hwk := (hseen.1 hs).1
      have hno : ¬ (wb k && leastB f per k) = true := by
        rw [Bool.and_eq_true, hleast hwk]
        exact fun h => h.2 hs
      rw [if_neg hno]
      refine ⟨fun y hy => ?_, i2⟩
      rw [i1 y hy]
      constructor
      · rintro ⟨h1, x, hx, h2⟩; exact ⟨h1, x, by omega, h2⟩
      · rintro ⟨h1, x, hx, h2⟩
        rcases Nat.lt_or_ge x k with h3 | h3
        · exact ⟨h1, x, h3, h2⟩
        · obtain rfl : x = k := by omega
          obtain ⟨_, x', hx', h4⟩ := hseen.1 hs
          exact ⟨h1, x', hx', onOrb_trans h4 h2⟩
    · rw [if_neg hs]
      by_cases hwk : wb k = true
      · have hyes : (wb k && leastB f per k) = true := by rw [Bool.and_eq_true]; exact ⟨hwk, (hleast hwk).2 hs⟩
        rw [if_pos hwk, if_pos hyes]
        refine ⟨fun y hy => ?_, by simp only; rw [i2]⟩
        simp only
        rw [bth_markL _ _ _ (by rw [hl]; exact hy), Bool.or_eq_true, i1 y hy]
        have hc : (orb f k (per k)).contains y = true ↔ OnOrb f k y := by rw [List.contains_iff_mem, mem_orb (hp k hkN)]
        rw [hc]
        constructor
        · rintro (⟨h1, x, hx, h2⟩ | h2)
          · exact ⟨h1, x, by omega, h2⟩
          · exact ⟨by rw [hwo k y hkN h2]; exact hwk, k, by omega, h2⟩
        · rintro ⟨h1, x, hx, h2⟩
          rcases Nat.lt_or_ge x k with h3 | h3
          · exact .inl ⟨h1, x, h3, h2⟩
          · obtain rfl : x = k := by omega
            exact .inr h2
      · rw [if_neg hwk]
        have hno : ¬ (wb k && leastB f per k) = true := by rw [Bool.and_eq_true]; exact fun h => hwk h.1
        rw [if_neg hno]
        refine ⟨fun y hy => ?_, i2⟩
        rw [i1 y hy]
        constructor
        · rintro ⟨h1, x, hx, h2⟩; exact ⟨h1, x, by omega, h2⟩
        · rintro ⟨h1, x, hx, h2⟩
          rcases Nat.lt_or_ge x k with h3 | h3
          · exact ⟨h1, x, h3, h2⟩
          · obtain rfl : x = k := by omega
            exact absurd (by rw [← hwo _ y hkN h2]; exact h1) hwk
theorem cycs_eq {f per : Nat → Nat} {N : Nat} (hf : Inj f N) (hp : ∀ x, x < N → IsPer f x (per x)) (wb : Nat → Bool) (hw : ∀ x, x < N → wb (f x) = wb x) : cycs f per wb N = clTo f per wb N :=
  (cyTo_marks hf hp wb hw N (Nat.le_refl _)).2
/-! ### Label -/
/-- One edge: both ends take the lesser label. -/
def rlStep (M : List Int) (h : Nat) (l : List Int) : List Int :=
  (l.set (h / 4) (min (nth l (h / 4)) (nth l ((nth M h).toNat / 4)))).set ((nth M h).toNat / 4) (min (nth l (h / 4)) (nth l ((nth M h).toNat / 4)))
/-- The first k half-edges. -/
def rlTo (M : List Int) : Nat → List Int → List Int
  | 0, l => l
  | k + 1, l => rlStep M k (rlTo M k l)
/-- The first k passes. -/
def rlPass (M : List Int) (n : Nat) : Nat → List Int
  | 0 => nats (List.range n)
  | k + 1 => rlTo M (4 * n) (rlPass M n k)
/-- The reference's Label. -/
def rlabel (M : List Int) (n : Nat) : List Int := rlPass M n n
theorem rlStep_len (M : List Int) (h : Nat) (l : List Int) : (rlStep M h l).length = l.length := by simp [rlStep]
theorem rlTo_len (M : List Int) (k : Nat) (l : List Int) : (rlTo M k l).length = l.length := by
  induction k with
  | zero => rfl
  | succ k ih => rw [rlTo, rlStep_len, ih]
theorem rlPass_len (M : List Int) (n k : Nat) : (rlPass M n k).length = n := by
  induction k with
  | zero => simp [rlPass, nats]
  | succ k ih => rw [rlPass, rlTo_len, ih]
/-- What holds of the labels throughout: each is a connected crossing. -/
def RlInv (M : List Int) (n : Nat) (l : List Int) : Prop := l.length = n ∧ ∀ c, c < n → ∃ d : Nat, nth l c = (d : Int) ∧ d < n ∧ Conn M c d
theorem nth_step {M : List Int} {n h : Nat} {l : List Int} (hm : MateOk M n) (hl : l.length = n) (hh : h < 4 * n) (j : Nat) :
    nth (rlStep M h l) j = if j = h / 4 ∨ j = (nth M h).toNat / 4 then min (nth l (h / 4)) (nth l ((nth M h).toNat / 4)) else nth l j := by
  have h1 := hm.lt h hh
  unfold rlStep
  rw [nth_set _ _ _ _ (by rw [List.length_set]; omega), nth_set _ _ _ _ (by omega)]
  by_cases e1 : (nth M h).toNat / 4 = j
  · rw [if_pos e1, if_pos (.inr e1.symm)]
  · rw [if_neg e1]
    by_cases e2 : h / 4 = j
    · rw [if_pos e2, if_pos (.inl e2.symm)]
    · rw [if_neg e2, if_neg (by omega)]
theorem RlInv.step {M : List Int} {n h : Nat} {l : List Int} (hm : MateOk M n) (hi : RlInv M n l) (hh : h < 4 * n) : RlInv M n (rlStep M h l) := by
  refine ⟨by rw [rlStep_len]; exact hi.1, fun c hc => ?_⟩
  rw [nth_step hm hi.1 hh]
  have h1 := hm.lt h hh
  have ha : Adj M (h / 4) ((nth M h).toNat / 4) := ⟨h % 4, by omega, by rw [Nat.div_add_mod]⟩
  have hb := hm.adj_symm (by omega) ha
  split
  · rename_i e
    obtain ⟨d1, k1, k2, k3⟩ := hi.2 (h / 4) (by omega)
    obtain ⟨d2, k4, k5, k6⟩ := hi.2 ((nth M h).toNat / 4) (by omega)
    have g1 : Conn M c d1 := by
      rcases e with rfl | rfl
      · exact k3
      · exact (Conn.adj hb).trans k3
    have g2 : Conn M c d2 := by
      rcases e with rfl | rfl
      · exact (Conn.adj ha).trans k6
      · exact k6
    rw [k1, k4]
    by_cases hle : (d1 : Int) ≤ d2
    · exact ⟨d1, by omega, k2, g1⟩
    · exact ⟨d2, by omega, k5, g2⟩
  · exact hi.2 c hc
theorem rlStep_le {M : List Int} {n h : Nat} {l : List Int} (hm : MateOk M n) (hl : l.length = n) (hh : h < 4 * n) (j : Nat) : nth (rlStep M h l) j ≤ nth l j := by
  rw [nth_step hm hl hh]
  split
  · rename_i e; rcases e with rfl | rfl <;> omega
  · omega
theorem RlInv.to {M : List Int} {n : Nat} {l : List Int} (hm : MateOk M n) (hi : RlInv M n l) (k : Nat) (hk : k ≤ 4 * n) : RlInv M n (rlTo M k l) ∧ ∀ j, nth (rlTo M k l) j ≤ nth l j := by
  induction k with
  | zero => exact ⟨hi, fun j => by rw [rlTo]; omega⟩
  | succ k ih =>
    obtain ⟨i1, i2⟩ := ih (by omega)
    rw [rlTo]
    exact ⟨i1.step hm (by omega), fun j => by have := rlStep_le hm i1.1 (show k < 4 * n by omega) j; have := i2 j; omega⟩
/-- Behind a whole pass the far end of an edge is no greater than the near end was. -/
theorem rlTo_edge {M : List Int} {n : Nat} {l : List Int} (hm : MateOk M n) (hi : RlInv M n l) (h : Nat) (hh : h < 4 * n) : nth (rlTo M (4 * n) l) ((nth M h).toNat / 4) ≤ nth l (h / 4) := by
  have key : ∀ k, h < k → k ≤ 4 * n → nth (rlTo M k l) ((nth M h).toNat / 4) ≤ nth l (h / 4) := by
    intro k
    induction k with
    | zero => omega
    | succ k ih =>
      intro h1 h2
      obtain ⟨i1, i2⟩ := hi.to hm k (by omega)
      rw [rlTo]
      by_cases e : k = h
      · subst e
        rw [nth_step hm i1.1 hh, if_pos (.inr rfl)]
        have := i2 (k / 4)
        omega
      · have := ih (by omega) (by omega)
        have := rlStep_le hm i1.1 (show k < 4 * n by omega) ((nth M h).toNat / 4)
        omega
  exact key (4 * n) hh (Nat.le_refl _)
theorem rlPass_inv {M : List Int} {n : Nat} (hm : MateOk M n) (k : Nat) : RlInv M n (rlPass M n k) ∧ ∀ c, c < n → nth (rlPass M n k) c ≤ c := by
  induction k with
  | zero =>
    have h0 : ∀ c, c < n → nth (rlPass M n 0) c = (c : Int) := fun c hc => by rw [rlPass, nth_nats _ _ (by simpa using hc)]; simp [hc]
    exact ⟨⟨rlPass_len M n 0, fun c hc => ⟨c, h0 c hc, hc, Conn.refl M c⟩⟩, fun c hc => by rw [h0 c hc]; omega⟩
  | succ k ih =>
    obtain ⟨i1, i2⟩ := ih
    obtain ⟨j1, j2⟩ := i1.to hm (4 * n) (Nat.le_refl _)
    rw [rlPass]
    exact ⟨j1, fun c hc => by have := j2 c; have := i2 c hc; omega⟩
/-- A label is settled: no connected crossing is less. -/
def Settled (M : List Int) (l : List Int) (c : Nat) : Prop := ∀ d, Conn M c d → nth l c ≤ (d : Int)
theorem settled_mono {M : List Int} {l l' : List Int} (h : ∀ j, nth l' j ≤ nth l j) {c : Nat} (hc : Settled M l c) : Settled M l' c := fun d hd => by have := hc d hd; have := h c; omega
open Classical in
/-- How many labels are settled. -/
noncomputable def settledN (M : List Int) (n : Nat) (l : List Int) : Nat := (List.range n).countP fun c => decide (Settled M l c)
theorem countP_lt {α : Type} {p q : α → Bool} {l : List α} (h : ∀ x, x ∈ l → p x = true → q x = true) (x : α) (hx : x ∈ l) (hp : p x = false) (hq : q x = true) : l.countP p < l.countP q := by
  induction l with
  | nil => cases hx
  | cons y l ih =>
    have hmono : l.countP p ≤ l.countP q := List.countP_mono_left fun z hz => h z (List.mem_cons_of_mem _ hz)
    rcases List.mem_cons.1 hx with rfl | hx'
    · simp only [List.countP_cons, hp, hq]
      simp
      omega
    · have := ih (fun z hz => h z (List.mem_cons_of_mem _ hz)) hx'
      simp only [List.countP_cons]
      by_cases hy : p y = true
      · rw [if_pos hy, if_pos (h y (by simp) hy)]; omega
      · rw [if_neg hy]; omega
/-- A least connected crossing. -/
theorem exists_min (M : List Int) (c : Nat) : ∃ d, Conn M c d ∧ ∀ e, Conn M c e → d ≤ e := by
  obtain ⟨d, h1, h2⟩ := exists_least (p := fun d => Conn M c d) ⟨c, Conn.refl M c⟩
  exact ⟨d, h1, h2⟩
theorem rlabel_settled {M : List Int} {n : Nat} (hm : MateOk M n) : ∀ c, c < n → Settled M (rlabel M n) c := by
  have key : ∀ k, k ≤ n → (∀ c, c < n → Settled M (rlPass M n k) c) ∨ k ≤ settledN M n (rlPass M n k) := by
    intro k
    induction k with
    | zero => intro _; exact .inr (Nat.zero_le _)
    | succ k ih =>
      intro hk
      obtain ⟨i1, i2⟩ := rlPass_inv hm k
      obtain ⟨j1, j2⟩ := i1.to hm (4 * n) (Nat.le_refl _)
      have hmono : ∀ c, Settled M (rlPass M n k) c → Settled M (rlPass M n (k + 1)) c := fun c hc => settled_mono (fun j => by rw [rlPass]; exact j2 j) hc
      rcases ih (by omega) with h | h
      · exact .inl fun c hc => hmono c (h c hc)
      · by_cases hall : ∀ c, c < n → Settled M (rlPass M n (k + 1)) c
        · exact .inl hall
        · refine .inr ?_
          simp only [Classical.not_forall] at hall
          obtain ⟨c, hc, hns⟩ := hall
          -- an edge from a settled crossing to one that isn't
          have hex : ∃ x y, x < n ∧ y < n ∧ Conn M c x ∧ Adj M x y ∧ Settled M (rlPass M n k) x ∧ ¬ Settled M (rlPass M n k) y := by
            apply Classical.byContradiction
            intro hno
            obtain ⟨d, hd1, hd2⟩ := exists_min M c
            have hdn := hm.conn_lt hc hd1
            have hds : Settled M (rlPass M n k) d := fun e he => by
              have := i2 d hdn
              have := hd2 e (hd1.trans he)
              omega
            have hdc := hm.conn_symm hc hd1
            have := (hdc (fun x => x < n ∧ Conn M c x ∧ Settled M (rlPass M n k) x) ⟨hdn, hd1, hds⟩ (by
              rintro x y ⟨g1, g2, g3⟩ hxy
              have g4 := hm.adj_lt g1 hxy
              refine ⟨g4, g2.step hxy, ?_⟩
              apply Classical.byContradiction
              intro g5
              exact hno ⟨x, y, g1, g4, g2, hxy, g3, g5⟩)).2.2
            exact hns (hmono c this)
          obtain ⟨x, y, hx, hy, hcx, hxy, hsx, hsy⟩ := hex
          have hsy' : Settled M (rlPass M n (k + 1)) y := by
            intro e he
            obtain ⟨s, hs, rfl⟩ := hxy
            have h1 := rlTo_edge hm i1 (4 * x + s) (by omega)
            rw [rlPass]
            have h2 := hsx e ((Conn.adj ⟨s, hs, rfl⟩).trans he)
            rw [show (4 * x + s) / 4 = x from by omega] at h1
            omega
          have : settledN M n (rlPass M n k) < settledN M n (rlPass M n (k + 1)) := by
            unfold settledN
            exact countP_lt (fun z _ hz => by simp only [decide_eq_true_eq] at hz ⊢; exact hmono z hz) y (by simpa using hy) (by simpa using hsy) (by simpa using hsy')
          omega
  intro c hc
  rcases key n (Nat.le_refl _) with h | h
  · exact h c hc
  · have hall : settledN M n (rlabel M n) = (List.range n).length := by
      have h1 : settledN M n (rlabel M n) ≤ (List.range n).length := List.countP_le_length
      have h2 : n ≤ settledN M n (rlabel M n) := h
      rw [List.length_range] at *
      omega
    unfold settledN at hall
    rw [List.countP_eq_length] at hall
    have := hall c (by simpa using hc)
    simpa using this
/-- The reference's label: the least connected crossing. -/
theorem rlabel_spec {M : List Int} {n : Nat} (hm : MateOk M n) (c : Nat) (hc : c < n) : ∃ d : Nat, nth (rlabel M n) c = (d : Int) ∧ d < n ∧ Conn M c d ∧ ∀ e, Conn M c e → d ≤ e := by
  obtain ⟨d, h1, h2, h3⟩ := (rlPass_inv hm n).1.2 c hc
  refine ⟨d, h1, h2, h3, fun e he => ?_⟩
  have := rlabel_settled hm c hc e he
  unfold rlabel at this
  omega
theorem rlabel_iff {M : List Int} {n : Nat} (hm : MateOk M n) (a b : Nat) (ha : a < n) (hb : b < n) : nth (rlabel M n) a = nth (rlabel M n) b ↔ Conn M a b := by
  obtain ⟨d, h1, h2, h3, h4⟩ := rlabel_spec hm a ha
  obtain ⟨e, k1, k2, k3, k4⟩ := rlabel_spec hm b hb
  rw [h1, k1]
  constructor
  · intro he
    have : d = e := by omega
    subst this
    exact h3.trans (hm.conn_symm hb k3)
  · intro hab
    have g1 := k4 d ((hm.conn_symm ha hab).trans h3)
    have g2 := h4 e (hab.trans k3)
    omega
end Go.Proofs.Ytkopbcehfbmnmaa
