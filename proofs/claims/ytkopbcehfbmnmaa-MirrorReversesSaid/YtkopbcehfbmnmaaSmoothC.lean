/- Plain laws: what the loops of mirror.Smooth compute, step by step. -/
import Derived.Test.YtkopbcehfbmnmaaSmoothB
namespace Go.Proofs.Ytkopbcehfbmnmaa
open Go Go.RowKit
/-- Along the join and its edge. -/
def gst (M : List Int) (p m : Nat) : Nat := mt M (jn p m)
/-- How often the strand that comes to m passes c. -/
def pas (M : List Int) (p c m : Nat) : Nat := if m / 4 = c then (if gst M p m / 4 = c then 2 else 1) else 0
theorem pas_le (M : List Int) (p c m : Nat) : pas M p c m ≤ 2 := by unfold pas; split <;> (try split) <;> omega
theorem pas_thr (M : List Int) (p c m : Nat) : iter (gst M p) (pas M p c m) m = thr M p c m := by
  unfold pas thr
  by_cases h : m / 4 = c
  · rw [if_pos h, if_pos h]
    by_cases g : gst M p m / 4 = c
    · rw [if_pos g, if_pos (show mt M (jn p m) / 4 = c from g)]; rfl
    · rw [if_neg g, if_neg (show ¬ mt M (jn p m) / 4 = c from g)]; rfl
  · rw [if_neg h, if_neg h]; rfl
theorem pas_in (M : List Int) (p c m r : Nat) (hr : r < pas M p c m) : iter (gst M p) r m / 4 = c := by
  unfold pas at hr
  by_cases h : m / 4 = c
  · rw [if_pos h] at hr
    by_cases g : gst M p m / 4 = c
    · rw [if_pos g] at hr
      rcases (show r = 0 ∨ r = 1 from by omega) with e | e
      · rw [e]; exact h
      · rw [e]; exact g
    · rw [if_neg g] at hr
      obtain rfl : r = 0 := by omega
      exact h
  · rw [if_neg h] at hr; omega
/-- The half-edges that are marked. -/
def uAdd (p : Nat) (U : Nat → Bool) (y : Nat) : Nat → Bool := fun x => U x || decide (x = y) || decide (x = jn p y)
def uRun (M : List Int) (p : Nat) (U : Nat → Bool) (m : Nat) : Nat → Nat → Bool
  | 0 => U
  | r + 1 => uAdd p (uRun M p U m r) (iter (gst M p) r m)
def usT (M : List Int) (p c : Nat) : Nat → Nat → Bool
  | 0 => fun _ => false
  | h + 1 => if h / 4 = c then usT M p c h else uRun M p (usT M p c h) (mt M h) (pas M p c (mt M h))
theorem uAdd_mono {p : Nat} {U : Nat → Bool} {y x : Nat} (h : U x = true) : uAdd p U y x = true := by unfold uAdd; rw [h]; simp
theorem uRun_mono {M : List Int} {p : Nat} {U : Nat → Bool} {m x : Nat} (h : U x = true) : ∀ r, uRun M p U m r x = true := by
  intro r
  induction r with
  | zero => exact h
  | succ r ih => exact uAdd_mono ih
theorem usT_mono {M : List Int} {p c x k : Nat} (h : usT M p c k x = true) : ∀ j, usT M p c (k + j) x = true := by
  intro j
  induction j with
  | zero => exact h
  | succ j ih =>
    show usT M p c (k + j + 1) x = true
    rw [usT]
    split
    · exact ih
    · exact uRun_mono ih _
theorem uRun_iff {M : List Int} {p : Nat} {U : Nat → Bool} {m x : Nat} : ∀ r, uRun M p U m r x = true ↔ U x = true ∨ ∃ i, i < r ∧ (x = iter (gst M p) i m ∨ x = jn p (iter (gst M p) i m)) := by
  intro r
  induction r with
  | zero => exact ⟨fun h => .inl h, fun h => h.elim id fun ⟨i, h, _⟩ => absurd h (Nat.not_lt_zero i)⟩
  | succ r ih =>
    rw [uRun]
    unfold uAdd
    rw [Bool.or_eq_true, Bool.or_eq_true, decide_eq_true_eq, decide_eq_true_eq, ih]
    constructor
    · rintro (((h | ⟨i, hi, h⟩) | h) | h)
      · exact .inl h
      · exact .inr ⟨i, by omega, h⟩
      · exact .inr ⟨r, by omega, .inl h⟩
      · exact .inr ⟨r, by omega, .inr h⟩
    · rintro (h | ⟨i, hi, h⟩)
      · exact .inl (.inl (.inl h))
      · by_cases e : i = r
        · subst e
          rcases h with h | h
          · exact .inl (.inr h)
          · exact .inr h
        · exact .inl (.inl (.inr ⟨i, by omega, h⟩))
section
variable {M : List Int} {n p c : Nat} (hm : Mates M n) (hp : p = 0 ∨ p = 1)
include hm hp
theorem usT_no {y : Nat} : ∀ k, k ≤ 4 * n → usT M p c k y = true → inn M p c y = false := by
  intro k
  induction k with
  | zero => intro _ h; cases h
  | succ k ih =>
    intro hk h
    rw [usT] at h
    split at h
    · exact ih (by omega) h
    · rename_i hc
      rcases (uRun_iff _).1 h with h | ⟨i, hi, h⟩
      · exact ih (by omega) h
      · have hk4 : k < 4 * n := by omega
        have h0 : inn M p c k = false := by
          rw [← Bool.not_eq_true, inn_iff]
          exact fun e => hc e.1
        have hj : ∀ j, j ≤ i → Jd M p c k (iter (gst M p) j (mt M k)) := by
          intro j
          induction j with
          | zero => intro _; exact (Jd.refl k).mate
          | succ j ihj => intro hj; exact ((ihj (by omega)).join (pas_in M p c _ j (by omega))).mate
        have hji := hj i (Nat.le_refl _)
        rcases h with h | h
        · rw [h, inn_eq hm hp hk4 hji]; exact h0
        · rw [h, inn_eq hm hp hk4 (hji.join (pas_in M p c _ i hi))]; exact h0
variable {o : Nat → Bool} (hw : Way M n p c o)
include hw
theorem usT_yes {y : Nat} (hy : y < 4 * n) (hyc : y / 4 = c) (h : inn M p c y = false) : usT M p c (4 * n) y = true := by
  have key : ∀ z, z < 4 * n → z / 4 ≠ c → mt M z / 4 = c → (y = mt M z ∨ y = jn p (mt M z)) → usT M p c (4 * n) y = true := fun z hz hzc hmz hyz => by
    have h1 : usT M p c (z + 1) y = true := by
      rw [usT, if_neg hzc, uRun_iff]
      refine .inr ⟨0, ?_, hyz⟩
      unfold pas; rw [if_pos hmz]; split <;> omega
    have := usT_mono h1 (4 * n - (z + 1))
    rwa [show z + 1 + (4 * n - (z + 1)) = 4 * n from by omega] at this
  by_cases h1 : mt M y / 4 = c
  · have hj : jn p y < 4 * n := jn_lt hy
    have hjc : jn p y / 4 = c := by rw [jn_div]; exact hyc
    by_cases h2 : mt M (jn p y) / 4 = c
    · exfalso
      have n1 : mt M y ≠ jn p y := fun e => by
        have := inn_iff.2 ⟨hyc, .inl e⟩
        rw [h] at this; cases this
      have e1 : mt M y = tn y 2 := (mate_at hm hw hy hyc h1).resolve_left n1
      have n2 : mt M (jn p y) ≠ jn p (jn p y) := fun e => by
        rw [jn_jn hp] at e
        have := congrArg (mt M) e
        rw [hm.inv hj] at this
        exact n1 this.symm
      have e2 : mt M (jn p y) = tn (jn p y) 2 := (mate_at hm hw hj hjc h2).resolve_left n2
      have := inn_iff.2 ⟨hyc, .inr ⟨e1, e2⟩⟩
      rw [h] at this; cases this
    · exact key _ (hm.lt hj) h2 (by rw [hm.inv hj]; exact hjc) (.inr (by rw [hm.inv hj, jn_jn hp]))
  · exact key _ (hm.lt hy) h1 (by rw [hm.inv hy]; exact hyc) (.inl (hm.inv hy).symm)
theorem usT_all {y : Nat} (hy : y < 4 * n) (hyc : y / 4 = c) : usT M p c (4 * n) y = !(inn M p c y) := by
  cases h : inn M p c y with
  | false => exact usT_yes hm hp hw hy hyc h
  | true =>
    rw [Bool.not_true, ← Bool.not_eq_true]
    intro e
    have := usT_no hm hp (4 * n) (Nat.le_refl _) e
    rw [h] at this; cases this
omit hw in
/-- The other start. -/
theorem inn_q (hc : c < n) : inn M p c (jn p (4 * c + 2)) = inn M p c (4 * c + 2) :=
  inn_eq hm hp (by omega) ((Jd.refl _).join (by omega))
/-- The first run: at 4c. -/
theorem run_first (hc : c < n) (hi : inn M p c (4 * c) = true) : ∃ R, 0 < R ∧ R ≤ 2 ∧ (∀ r, r < R → uRun M p (usT M p c (4 * n)) (4 * c) r (iter (gst M p) r (4 * c)) = false ∧ iter (gst M p) r (4 * c) / 4 = c) ∧ uRun M p (usT M p c (4 * n)) (4 * c) R (iter (gst M p) R (4 * c)) = true ∧ iter (gst M p) R (4 * c) / 4 = c ∧
    (uRun M p (usT M p c (4 * n)) (4 * c) R (jn p (4 * c + 2)) = true ↔ ¬ (inn M p c (4 * c + 2) = true ∧ mt M (4 * c) = jn p (4 * c))) := by
  have h0 : 4 * c < 4 * n := by omega
  have h2 : 4 * c + 2 < 4 * n := by omega
  have t2 : tn (4 * c) 2 = 4 * c + 2 := by unfold tn; omega
  have hu0 : usT M p c (4 * n) (4 * c) = false := by rw [usT_all hm hp hw h0 (by omega), hi]; rfl
  have hq := usT_all hm hp hw (y := jn p (4 * c + 2)) (jn_lt h2) (by rw [jn_div]; omega)
  rw [inn_q hm hp hc] at hq
  have par0 := jn_par p (4 * c)
  have par2 := jn_par p (4 * c + 2)
  by_cases hk : mt M (4 * c) = jn p (4 * c)
  · have hg : gst M p (4 * c) = 4 * c := by unfold gst; rw [← hk, hm.inv h0]
    refine ⟨1, by omega, by omega, fun r hr => ?_, ?_, ?_, ?_⟩
    · obtain rfl : r = 0 := by omega
      exact ⟨hu0, by show 4 * c / 4 = c; omega⟩
    · rw [uRun_iff]
      exact .inr ⟨0, by omega, .inl hg⟩
    · show gst M p (4 * c) / 4 = c
      rw [hg]; omega
    · rw [uRun_iff, hq, Bool.not_eq_true', Bool.eq_false_iff]
      constructor
      · rintro (h | ⟨i, hi', h⟩)
        · exact fun e => h e.1
        · obtain rfl : i = 0 := by omega
          have h : jn p (4 * c + 2) = 4 * c ∨ jn p (4 * c + 2) = jn p (4 * c) := h
          rcases h with h | h
          · intro _
            rw [h] at par2; 
            have h3 := jn_jn hp (4 * c + 2)
            rw [h] at h3
            have h4 := jn_0 p c
            rw [h3] at h4
            split at h4 <;> omega
          · have := jn_inj hp h; omega
      · intro h
        exact .inl fun e => h ⟨e, hk⟩
  · obtain ⟨e1, e2⟩ := ((inn_iff.1 hi).2).resolve_left hk
    have hg : gst M p (4 * c) = jn p (4 * c + 2) := by unfold gst; rw [e2, ← jn_tn2, t2]
    have hgg : gst M p (jn p (4 * c + 2)) = 4 * c := by
      unfold gst
      rw [jn_jn hp, ← t2, ← e1, hm.inv h0]
    have hjd : Jd M p c (4 * c) (4 * c + 2) := by
      have := (Jd.refl (M := M) (p := p) (c := c) (4 * c)).mate
      rwa [e1, t2] at this
    have hi2 : inn M p c (4 * c + 2) = true := by rw [inn_eq hm hp h0 hjd]; exact hi
    refine ⟨2, by omega, by omega, fun r hr => ?_, ?_, ?_, ?_⟩
    · rcases (show r = 0 ∨ r = 1 from by omega) with e | e
      · rw [e]; exact ⟨hu0, by show 4 * c / 4 = c; omega⟩
      · rw [e]
        have he : iter (gst M p) 1 (4 * c) = jn p (4 * c + 2) := hg
        rw [he]
        refine ⟨?_, by rw [jn_div]; omega⟩
        rw [← Bool.not_eq_true, uRun_iff, hq, hi2]
        rintro (h | ⟨i, hi', h⟩)
        · cases h
        · obtain rfl : i = 0 := by omega
          have h : jn p (4 * c + 2) = 4 * c ∨ jn p (4 * c + 2) = jn p (4 * c) := h
          rcases h with h | h
          · rw [← h] at par0
            have h3 := jn_jn hp (4 * c + 2)
            rw [h] at h3
            have h4 := jn_0 p c
            rw [h3] at h4
            split at h4 <;> omega
          · have := jn_inj hp h; omega
    · rw [uRun_iff]
      refine .inr ⟨0, by omega, .inl ?_⟩
      show gst M p (gst M p (4 * c)) = 4 * c
      rw [hg, hgg]
    · show gst M p (gst M p (4 * c)) / 4 = c
      rw [hg, hgg]; omega
    · rw [uRun_iff]
      exact ⟨fun _ e => hk e.2, fun _ => .inr ⟨1, by omega, .inl hg.symm⟩⟩
omit hw in
/-- The second run: at the strand over, where it comes in. -/
theorem run_second (hc : c < n) (hi : inn M p c (4 * c + 2) = true) (hno : ¬ (inn M p c (4 * c) = true ∧ mt M (4 * c) ≠ jn p (4 * c))) :
    gst M p (jn p (4 * c + 2)) = jn p (4 * c + 2) := by
  have h0 : 4 * c < 4 * n := by omega
  have h2 : 4 * c + 2 < 4 * n := by omega
  have t2 : tn (4 * c) 2 = 4 * c + 2 := by unfold tn; omega
  have t4 : tn (4 * c + 2) 2 = 4 * c := by unfold tn; omega
  unfold gst
  rw [jn_jn hp]
  rcases (inn_iff.1 hi).2 with e | ⟨e1, e2⟩
  · exact e
  · exfalso
    rw [t4] at e1
    have a1 : mt M (4 * c) = tn (4 * c) 2 := by
      have := congrArg (mt M) e1
      rw [hm.inv h2] at this
      rw [t2, ← this]
    have hq : jn p (4 * c + 2) = tn (jn p (4 * c)) 2 := by rw [← t2, jn_tn2]
    have a2 : mt M (jn p (4 * c)) = tn (jn p (4 * c)) 2 := by
      rw [← hq]
      have e3 : tn (jn p (4 * c + 2)) 2 = jn p (4 * c) := by rw [hq, tn_22]
      rw [e3] at e2
      have := congrArg (mt M) e2
      rw [hm.inv (jn_lt h2)] at this
      exact this.symm
    refine hno ⟨inn_iff.2 ⟨by omega, .inr ⟨a1, a2⟩⟩, fun e => ?_⟩
    have := jn_par p (4 * c)
    rw [← e, a1, t2] at this
    omega
/-- Both starts. -/
theorem two_runs (hc : c < n) : ∃ (U1 : Nat → Bool) (a : Nat), a ≤ 1 ∧ (inn M p c (4 * c) = false → U1 = usT M p c (4 * n) ∧ a = 0) ∧
    (inn M p c (4 * c) = true → a = 1 ∧ ∃ R, R ≤ 2 ∧ (∀ r, r < R → uRun M p (usT M p c (4 * n)) (4 * c) r (iter (gst M p) r (4 * c)) = false ∧ iter (gst M p) r (4 * c) / 4 = c) ∧ uRun M p (usT M p c (4 * n)) (4 * c) R (iter (gst M p) R (4 * c)) = true ∧ iter (gst M p) R (4 * c) / 4 = c ∧ U1 = uRun M p (usT M p c (4 * n)) (4 * c) R) ∧
    (U1 (jn p (4 * c + 2)) = false → gst M p (jn p (4 * c + 2)) = jn p (4 * c + 2) ∧ newL M p c = a + 1) ∧ (U1 (jn p (4 * c + 2)) = true → newL M p c = a) := by
  by_cases hi : inn M p c (4 * c) = true
  · obtain ⟨R, h0, h1, h2, h3, h4, h5⟩ := run_first hm hp hw hc hi
    refine ⟨uRun M p (usT M p c (4 * n)) (4 * c) R, 1, Nat.le_refl _, (fun e => by rw [hi] at e; cases e), fun _ => ⟨rfl, R, h1, h2, h3, h4, rfl⟩, fun e => ?_, fun e => ?_⟩
    · have h6 : inn M p c (4 * c + 2) = true ∧ mt M (4 * c) = jn p (4 * c) := Classical.byContradiction fun g => by
        rw [h5.2 g] at e; cases e
      have h7 : ¬ (inn M p c (4 * c) = true ∧ mt M (4 * c) ≠ jn p (4 * c)) := fun g => g.2 h6.2
      refine ⟨run_second hm hp hc h6.1 h7, ?_⟩
      unfold newL
      rw [if_pos hi, if_pos ⟨h6.1, h7⟩]
    · have h6 := h5.1 e
      unfold newL
      rw [if_pos hi, if_neg]
      rintro ⟨g1, g2⟩
      exact h6 ⟨g1, Classical.byContradiction fun g => g2 ⟨hi, g⟩⟩
  · have hi' : inn M p c (4 * c) = false := by simpa using hi
    have hq := usT_all hm hp hw (y := jn p (4 * c + 2)) (jn_lt (by omega)) (by rw [jn_div]; omega)
    rw [inn_q hm hp hc] at hq
    have h7 : ¬ (inn M p c (4 * c) = true ∧ mt M (4 * c) ≠ jn p (4 * c)) := fun g => hi g.1
    refine ⟨usT M p c (4 * n), 0, Nat.zero_le _, fun _ => ⟨rfl, rfl⟩, fun e => absurd e hi, fun e => ?_, fun e => ?_⟩
    · rw [hq] at e
      have h6 : inn M p c (4 * c + 2) = true := by simpa using e
      refine ⟨run_second hm hp hc h6 h7, ?_⟩
      unfold newL
      rw [if_neg hi, if_pos ⟨h6, h7⟩]
    · rw [hq] at e
      have h6 : ¬ inn M p c (4 * c + 2) = true := by simpa using e
      unfold newL
      rw [if_neg hi, if_neg fun g => h6 g.1]
end
theorem gst_lt {M : List Int} {n p m : Nat} (hm : Mates M n) (h : m < 4 * n) : gst M p m < 4 * n := hm.lt (jn_lt h)
theorem gst_iter_lt {M : List Int} {n p m : Nat} (hm : Mates M n) (h : m < 4 * n) (r : Nat) : iter (gst M p) r m < 4 * n := iter_lt _ _ (fun _ hx => gst_lt hm hx) r m h
/-- The mates, turned: the first h. -/
def mtT (M : List Int) (p c : Nat) : Nat → List Int
  | 0 => M
  | h + 1 => if h / 4 = c then mtT M p c h else (mtT M p c h).set h ((thr M p c (mt M h) : Nat) : Int)
theorem mtT_len (M : List Int) (p c : Nat) : ∀ h, (mtT M p c h).length = M.length := by
  intro h
  induction h with
  | zero => rfl
  | succ h ih =>
    rw [mtT]
    split
    · exact ih
    · rw [List.length_set, ih]
theorem nth_mtT (M : List Int) (p c : Nat) : ∀ k h, k ≤ M.length → h < k → h / 4 ≠ c → nth (mtT M p c k) h = ((thr M p c (mt M h) : Nat) : Int) := by
  intro k
  induction k with
  | zero => intro h _ h1; omega
  | succ k ih =>
    intro h hk h1 h2
    rw [mtT]
    by_cases e : k / 4 = c
    · rw [if_pos e]
      exact ih h (by omega) (by have : h ≠ k := fun g => h2 (g ▸ e); omega) h2
    · rw [if_neg e, nth_set _ _ _ _ (by rw [mtT_len]; omega)]
      by_cases g : k = h
      · rw [if_pos g, g]
      · rw [if_neg g]; exact ih h (by omega) (by omega) h2
/-- What without collects: the signs, the mates. -/
def woS (S : List Int) (c : Nat) : Nat → List Int
  | 0 => []
  | k + 1 => if k = c then woS S c k else woS S c k ++ [nth S k]
def woR (g : Nat → Nat) (c k : Nat) : Nat → List Int
  | 0 => []
  | s + 1 => woR g c k s ++ [((dn c (g (4 * k + s)) : Nat) : Int)]
def woM (g : Nat → Nat) (c : Nat) : Nat → List Int
  | 0 => []
  | k + 1 => if k = c then woM g c k else woM g c k ++ woR g c k 4
theorem woR_len (g : Nat → Nat) (c k s : Nat) : (woR g c k s).length = s := by
  induction s with
  | zero => rfl
  | succ s ih => rw [woR, List.length_append, ih]; rfl
theorem woS_len (S : List Int) (c : Nat) : ∀ k, (woS S c k).length = if c < k then k - 1 else k := by
  intro k
  induction k with
  | zero => simp [woS]
  | succ k ih =>
    rw [woS]
    by_cases h : k = c
    · rw [if_pos h, ih, if_neg (by omega), if_pos (by omega)]; omega
    · rw [if_neg h, List.length_append, ih]
      by_cases g : c < k
      · rw [if_pos g, if_pos (by omega)]; show k - 1 + 1 = _; omega
      · rw [if_neg g, if_neg (by omega)]; rfl
theorem woM_len (g : Nat → Nat) (c : Nat) : ∀ k, (woM g c k).length = 4 * if c < k then k - 1 else k := by
  intro k
  induction k with
  | zero => simp [woM]
  | succ k ih =>
    rw [woM]
    by_cases h : k = c
    · rw [if_pos h, ih, if_neg (by omega), if_pos (by omega)]; omega
    · rw [if_neg h, List.length_append, ih, woR_len]
      by_cases g : c < k
      · rw [if_pos g, if_pos (by omega)]; omega
      · rw [if_neg g, if_neg (by omega)]; omega
theorem nth_woS (S : List Int) (c : Nat) : ∀ k i, i < (woS S c k).length → nth (woS S c k) i = nth S (del c i) := by
  intro k
  induction k with
  | zero => intro i h; simp [woS] at h
  | succ k ih =>
    intro i hi
    have hl := woS_len S c k
    rw [woS] at hi ⊢
    by_cases h : k = c
    · rw [if_pos h] at hi ⊢; exact ih i hi
    · rw [if_neg h] at hi ⊢
      rcases Nat.lt_or_ge i (woS S c k).length with g | g
      · rw [nth_append_left _ _ _ g]; exact ih i g
      · rw [List.length_append] at hi
        have hi : i < (woS S c k).length + 1 := hi
        rw [nth_append_right _ _ _ g, show i - (woS S c k).length = 0 from by omega]
        show nth S k = _
        unfold del
        by_cases e : c < k
        · rw [if_pos e] at hl; rw [if_neg (by omega)]; congr 1; omega
        · rw [if_neg e] at hl; rw [if_pos (by omega)]; congr 1; omega
theorem nth_woR (g : Nat → Nat) (c k : Nat) : ∀ s i, i < s → nth (woR g c k s) i = ((dn c (g (4 * k + i)) : Nat) : Int) := by
  intro s
  induction s with
  | zero => intro i h; omega
  | succ s ih =>
    intro i hi
    have hl := woR_len g c k s
    rw [woR]
    rcases Nat.lt_or_ge i s with h | h
    · rw [nth_append_left _ _ _ (by omega)]; exact ih i h
    · obtain rfl : i = s := by omega
      rw [nth_append_right _ _ _ (by omega), hl, show i - i = 0 from by omega]; rfl
theorem nth_woM (g : Nat → Nat) (c : Nat) : ∀ k i, i < (woM g c k).length → nth (woM g c k) i = ((dn c (g (up c i)) : Nat) : Int) := by
  intro k
  induction k with
  | zero => intro i h; simp [woM] at h
  | succ k ih =>
    intro i hi
    have hl := woM_len g c k
    rw [woM] at hi ⊢
    by_cases h : k = c
    · rw [if_pos h] at hi ⊢; exact ih i hi
    · rw [if_neg h] at hi ⊢
      rcases Nat.lt_or_ge i (woM g c k).length with e | e
      · rw [nth_append_left _ _ _ e]; exact ih i e
      · rw [List.length_append, woR_len] at hi
        rw [nth_append_right _ _ _ e, nth_woR g c k 4 _ (by omega)]
        congr 3
        unfold up
        by_cases q : c < k
        · rw [if_pos q] at hl; rw [if_neg (by omega)]; omega
        · rw [if_neg q] at hl; rw [if_pos (by omega)]; omega
theorem woS_all (S : List Int) (c : Nat) (hc : c < S.length) : woS S c S.length = smS S c := by
  have hl := woS_len S c S.length
  rw [if_pos hc] at hl
  refine ext_nth (by rw [hl, smS_len S c hc]) fun i hi => ?_
  rw [nth_woS S c _ i hi]
  exact (nth_erase S c i).symm
theorem woM_all (S M : List Int) (c : Nat) (hc : c < S.length) : woM (fun h => thr M (pS S c) c (mt M h)) c S.length = smM S M c := by
  have hl := woM_len (fun h => thr M (pS S c) c (mt M h)) c S.length
  rw [if_pos hc] at hl
  refine ext_nth (by rw [hl, smM_len]) fun i hi => ?_
  rw [nth_woM _ c _ i hi, nth_smM S M c i (by omega)]
end Go.Proofs.Ytkopbcehfbmnmaa
