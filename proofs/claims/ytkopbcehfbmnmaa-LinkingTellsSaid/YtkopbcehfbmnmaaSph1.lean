/- Plain law: sphericity, said without either program; both programs' answers are it. -/
import Derived.Test.YtkopbcehfbmnmaaRef0
namespace Go.Proofs.Ytkopbcehfbmnmaa
open Go Go.RowKit
open Classical in
/-- The faces at the crossings connected to c: each counted at its least half-edge. -/
noncomputable def FC (M : List Int) (n c : Nat) : Nat := (List.range (4 * n)).countP fun h => leastB (fc M) (perOf (fc M) (4 * n)) h && decide (Conn M c (h / 4))
open Classical in
/-- The crossings connected to c. -/
noncomputable def VC (M : List Int) (n c : Nat) : Nat := (List.range n).countP fun d => decide (Conn M c d)
/-- Each connected part lies on a sphere. -/
def Sph (M : List Int) (n : Nat) : Prop := ∀ c, c < n → FC M n c = VC M n c + 2
theorem leastB_iff {f per : Nat → Nat} {N k : Nat} (hf : Inj f N) (hp : ∀ x, x < N → IsPer f x (per x)) (hk : k < N) : leastB f per k = true ↔ ∀ x, x < k → ¬ OnOrb f x k := by
  unfold leastB
  rw [List.all_eq_true]
  constructor
  · rintro h x hx ho
    have := h x ((mem_orb (hp k hk)).2 (onOrb_symm hf (by omega) ho))
    simp at this
    omega
  · intro h g hg
    rw [mem_orb (hp k hk)] at hg
    simp only [decide_eq_true_eq]
    rcases Nat.lt_or_ge g k with h2 | h2
    · exact absurd (onOrb_symm hf hk hg) (h g h2)
    · exact h2
theorem sfTo_marks (f per : Nat → Nat) (part : List Int) (N : Nat) (ex : List Int) (k : Nat) : (sfTo f per part N ex k).1 = (cyTo f per (fun _ => true) N k).1 := by
  induction k with
  | zero => rfl
  | succ k ih =>
    rw [sfTo, cyTo, sfRound, cyRound, ih]
    split
    · exact ih
    · simp
theorem sfTo_least {f per : Nat → Nat} {N k : Nat} (hf : Inj f N) (hp : ∀ x, x < N → IsPer f x (per x)) (hk : k < N) (part ex : List Int) : bth (sfTo f per part N ex k).1 k = true ↔ ¬ leastB f per k = true := by
  rw [sfTo_marks, (cyTo_marks hf hp (fun _ => true) (fun _ _ => rfl) k (by omega)).1 k hk, leastB_iff hf hp hk]
  constructor
  · rintro ⟨_, x, hx, ho⟩ h; exact h x hx ho
  · intro h
    refine ⟨rfl, ?_⟩
    have := Classical.not_forall.1 h
    obtain ⟨x, hx⟩ := this
    have := Classical.not_forall.1 hx
    obtain ⟨hx, ho⟩ := this
    exact ⟨x, hx, Classical.not_not.1 ho⟩
theorem sfTo_val {f per : Nat → Nat} {N : Nat} (hf : Inj f N) (hp : ∀ x, x < N → IsPer f x (per x)) (part ex : List Int) (hpart : ∀ c, 4 * c < N → (nth part c).toNat < ex.length) (p k : Nat) (hk : k ≤ N) :
    nth (sfTo f per part N ex k).2 p = nth ex p + (((List.range k).countP fun h => leastB f per h && decide ((nth part (h / 4)).toNat = p) : Nat) : Int) := by
  induction k with
  | zero => simp [sfTo]
  | succ k ih =>
    have ih := ih (by omega)
    rw [sfTo, sfRound, List.range_succ, List.countP_append]
    have hl := (sfTo_len f per part N ex k).2
    have hq := hpart (k / 4) (by omega)
    have hlb := sfTo_least hf hp (show k < N by omega) part ex
    by_cases hm : bth (sfTo f per part N ex k).1 k = true
    · rw [if_pos hm, ih]
      have : leastB f per k = false := by simpa using hlb.1 hm
      simp [this]
    · rw [if_neg hm]
      have : leastB f per k = true := by
        by_cases hh : leastB f per k = true
        · exact hh
        · exact absurd (hlb.2 hh) hm
      simp only
      rw [nth_set _ _ _ _ (by rw [hl]; exact hq)]
      by_cases e : (nth part (k / 4)).toNat = p
      · rw [if_pos e, e, ih]; simp [this, e]; omega
      · rw [if_neg e, ih]; simp [e]
theorem exDec_val (part : List Int) (m k p : Nat) (hpart : ∀ c, c < k → (nth part c).toNat < m) : nth (exDec part k (List.replicate m 0)) p = -(((List.range k).countP fun c => decide ((nth part c).toNat = p) : Nat) : Int) := by
  induction k with
  | zero => rw [exDec, nth_rep0]; simp
  | succ k ih =>
    have ih := ih fun c hc => hpart c (by omega)
    rw [exDec, List.range_succ, List.countP_append, nth_set _ _ _ _ (by rw [exDec_len]; simpa using hpart k (by omega))]
    by_cases e : (nth part k).toNat = p
    · rw [if_pos e, e, ih]; simp [e]; omega
    · rw [if_neg e, ih]; simp [e]
theorem allTwo_iff (l : List Int) : allTwo l = true ↔ ∀ p, p < l.length → nth l p = 2 := by
  unfold allTwo
  rw [List.all_eq_true]
  constructor
  · intro h p hp
    have := h (l[p]) (List.getElem_mem hp)
    simpa [nth, hp] using this
  · intro h x hx
    obtain ⟨i, hi, rfl⟩ := List.getElem_of_mem hx
    have := h i hi
    simpa [nth, hi] using this
theorem perOf_all {f : Nat → Nat} {N : Nat} (h : Inj f N) : ∀ x, x < N → IsPer f x (perOf f N x) := fun x hx => perOf_spec h x hx
theorem MateOk.injF {M : List Int} {n : Nat} (hm : MateOk M n) : Inj (fc M) (4 * n) := hm.injB (-1) (by omega)
/-- spherical's answer is sphericity. -/
theorem sphL_iff {M : List Int} {n : Nat} (hm : MateOk M n) {part : List Int} {parts : Nat} (hl : Labels M n part parts) : sphL M n part parts = true ↔ Sph M n := by
  have hf := hm.injF
  have hp := perOf_all hf
  have hpart : ∀ c, c < n → (nth part c).toNat < parts := fun c hc => by have := hl.range c hc; omega
  unfold sphL
  have hlen : (sfTo (fc M) (perOf (fc M) (4 * n)) part (4 * n) (exDec part n (List.replicate parts 0)) (4 * n)).2.length = parts := by rw [(sfTo_len _ _ _ _ _ _).2, exDec_len]; simp
  rw [allTwo_iff, hlen]
  have hval : ∀ p c, p < parts → c < n → (nth part c).toNat = p → nth (sfTo (fc M) (perOf (fc M) (4 * n)) part (4 * n) (exDec part n (List.replicate parts 0)) (4 * n)).2 p = (FC M n c : Int) - (VC M n c : Int) := by
    intro p c hp' hc he
    have hcc : ∀ d, d < n → ((nth part d).toNat = p ↔ Conn M c d) := by
      intro d hd
      rw [← hl.iff c d hc hd]
      have h1 := hl.range c hc
      have h2 := hl.range d hd
      omega
    rw [sfTo_val hf hp part _ (fun c hc => by rw [exDec_len]; simpa using hpart c (by omega)) p _ (Nat.le_refl _), exDec_val part parts n p hpart]
    have e1 : ((List.range (4 * n)).countP fun h => leastB (fc M) (perOf (fc M) (4 * n)) h && decide ((nth part (h / 4)).toNat = p)) = FC M n c := by
      unfold FC
      refine List.countP_congr fun h hh => ?_
      rw [List.mem_range] at hh
      simp only [Bool.and_eq_true, decide_eq_true_eq]
      rw [hcc (h / 4) (by omega)]
    have e2 : ((List.range n).countP fun c => decide ((nth part c).toNat = p)) = VC M n c := by
      unfold VC
      refine List.countP_congr fun d hd => ?_
      rw [List.mem_range] at hd
      simp only [decide_eq_true_eq]
      exact hcc d hd
    rw [e1, e2]; omega
  constructor
  · intro h c hc
    have h1 := h _ (hpart c hc)
    rw [hval _ c (hpart c hc) hc rfl] at h1
    omega
  · intro h p hp'
    obtain ⟨d, hd, he⟩ := hl.hit p hp'
    rw [hval p d hp' hd (by omega), h d hd]
    omega
theorem sphB_iff {M : List Int} {n : Nat} (hm : MateOk M n) (hn : n ≤ 1000) : sphB M n = true ↔ Sph M n := by
  obtain ⟨part, parts, h1, h2⟩ := label_spec hm hn
  unfold sphB
  rw [h1]
  exact sphL_iff hm h2
/-- A diagram is valid. -/
theorem vldB_iff {S M : List Int} {L : Int} : vldB S M L = true ↔ Shape S M L ∧ Sph M S.length := by
  constructor
  · intro h
    by_cases hs : Shape S M L
    · rw [vldB_yes hs, sphB_iff hs.mates (by have := hs.few; omega)] at h
      exact ⟨hs, h⟩
    · rw [vldB_no hs] at h; exact absurd h (by simp)
  · rintro ⟨hs, h⟩
    rw [vldB_yes hs, sphB_iff hs.mates (by have := hs.few; omega)]
    exact h
/-! ### the reference's -/
/-- The crossings with the label c, among the first k. -/
def rvTo (lab : List Int) (c k : Nat) : Nat := (List.range k).countP fun d => decide (nth lab d = (c : Int))
/-- The lists whose head lies at a crossing with the label c. -/
def rfTo (lab : List Int) (c : Nat) (ls : List (List Nat)) : Nat := ls.countP fun l => decide (nth lab (l.headD 0 / 4) = (c : Int))
/-- Crossing c passes the test. -/
def rsOk (lab : List Int) (n : Nat) (ls : List (List Nat)) (c : Nat) : Prop := nth lab c = (c : Int) → rfTo lab c ls = rvTo lab c n + 2
theorem rfaces_count {M : List Int} {n : Nat} (hm : MateOk M n) (lab : List Int) (c : Nat) : rfTo lab c (clTo (fb M (-1)) (perOf (fb M (-1)) (4 * n)) (fun _ => true) (4 * n)) = (List.range (4 * n)).countP fun h => leastB (fc M) (perOf (fc M) (4 * n)) h && decide (nth lab (h / 4) = (c : Int)) := by
  unfold rfTo clTo
  rw [List.countP_map, List.countP_filter]
  refine List.countP_congr fun h hh => ?_
  rw [List.mem_range] at hh
  have hp := perOf_all hm.injF h hh
  have hh0 : (orb (fb M (-1)) h (perOf (fb M (-1)) (4 * n) h)).headD 0 = h := by
    obtain ⟨p, hp'⟩ : ∃ p, perOf (fb M (-1)) (4 * n) h = p + 1 := ⟨perOf (fb M (-1)) (4 * n) h - 1, by have h0 : 0 < perOf (fb M (-1)) (4 * n) h := hp.1; omega⟩
    rw [hp']
    unfold orb
    rw [List.range_succ_eq_map]
    rfl
  simp only [Function.comp_apply, hh0, Bool.true_and, Bool.and_eq_true, decide_eq_true_eq]
  exact And.comm
theorem rsph_iff {M : List Int} {n : Nat} (hm : MateOk M n) : (∀ c, c < n → rsOk (rlabel M n) n (clTo (fb M (-1)) (perOf (fb M (-1)) (4 * n)) (fun _ => true) (4 * n)) c) ↔ Sph M n := by
  have key : ∀ c d : Nat, c < n → d < n → nth (rlabel M n) c = (d : Int) → rfTo (rlabel M n) d (clTo (fb M (-1)) (perOf (fb M (-1)) (4 * n)) (fun _ => true) (4 * n)) = FC M n c ∧ rvTo (rlabel M n) d n = VC M n c := by
    intro c d hc hd he
    have hcc : ∀ e, e < n → (nth (rlabel M n) e = (d : Int) ↔ Conn M c e) := by
      intro e hen
      rw [← rlabel_iff hm c e hc hen, he]
      exact eq_comm
    constructor
    · rw [rfaces_count hm]
      unfold FC
      refine List.countP_congr fun h hh => ?_
      rw [List.mem_range] at hh
      simp only [Bool.and_eq_true, decide_eq_true_eq]
      rw [hcc (h / 4) (by omega)]
    · unfold rvTo VC
      refine List.countP_congr fun e hen => ?_
      rw [List.mem_range] at hen
      simp only [decide_eq_true_eq]
      exact hcc e hen
  constructor
  · intro h c hc
    obtain ⟨d, h1, h2, h3, h4⟩ := rlabel_spec hm c hc
    obtain ⟨k1, k2⟩ := key c d hc h2 h1
    have h5 : nth (rlabel M n) d = (d : Int) := by rw [← h1]; exact ((rlabel_iff hm c d hc h2).2 h3).symm
    have := h d h2 h5
    omega
  · intro h c hc he
    obtain ⟨k1, k2⟩ := key c c hc hc he
    rw [k1, k2]
    exact h c hc
end Go.Proofs.Ytkopbcehfbmnmaa
