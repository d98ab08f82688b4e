/- Plain law: the search that counts the parts of a graph without two edges. -/
import Derived.Test.YtmjoijfafachhaaConE
namespace Go.Proofs.Ytmjoijfafachhaa
open Go Go.RowKit
/-- The search from c: what is seen, what waits; of b the first k ends have been looked at. -/
structure Sr (M : List Int) (x y n c : Nat) (old : Nat → Prop) (seen : List Bool) (rest : List Nat) (b k : Nat) : Prop where
  len : seen.length = n
  only : ∀ d, d < n → bth seen d = true → old d ∨ ConnW M x y c d
  olds : ∀ d, d < n → old d → bth seen d = true
  root : bth seen c = true
  wait : ∀ d ∈ rest, d < n ∧ bth seen d = true ∧ ConnW M x y c d
  done : ∀ d, d < n → bth seen d = true → ¬ old d → d ∉ rest → d ≠ b → ∀ e, AdjW M x y d e → bth seen e = true
  now : b < n → ConnW M x y c b ∧ ∀ s, s < k → 4 * b + s ≠ x → mt M (4 * b + s) ≠ x → 4 * b + s ≠ y → mt M (4 * b + s) ≠ y → bth seen (mt M (4 * b + s) / 4) = true
def unm (seen : List Bool) : Nat := cnt (fun d => !bth seen d) seen.length
theorem unm_set {seen : List Bool} {m : Nat} (hm : m < seen.length) (h : bth seen m = false) : unm (seen.set m true) + 1 = unm seen := by
  unfold unm
  rw [List.length_set]
  have key : ∀ N, cnt (fun d => !bth (seen.set m true) d) N + (if m < N then 1 else 0) = cnt (fun d => !bth seen d) N := fun N => by
    induction N with
    | zero => rfl
    | succ N ih =>
      rw [cnt_succ, cnt_succ, bth_set _ _ _ _ hm]
      by_cases e : m = N
      · subst e
        rw [if_pos rfl, h]
        rw [if_neg (Nat.lt_irrefl _)] at ih
        rw [if_pos (Nat.lt_succ_self _)]
        simp only [Bool.not_true, Bool.not_false, Bool.false_eq_true, if_false, if_true]
        omega
      · rw [if_neg e]
        have e1 : (m < N + 1) = (m < N) := by rw [eq_iff_iff]; omega
        simp only [e1]
        omega
  have := key seen.length
  rw [if_pos hm] at this
  exact this
namespace Sr
variable {M : List Int} {x y n c b k : Nat} {old : Nat → Prop} {seen : List Bool} {rest : List Nat}
theorem start (hl : seen.length = n) (hc : c < n) (ho : ∀ d, d < n → (bth seen d = true ↔ old d)) : Sr M x y n c old (seen.set c true) [c] n 0 := by
  have hs := fun j => bth_set seen c j true (by omega)
  refine ⟨by rw [List.length_set, hl], fun d hd h => ?_, fun d hd h => ?_, ?_, fun d hd => ?_, fun d hd h hn hr => ?_, fun h => absurd h (Nat.lt_irrefl _)⟩
  · rw [hs] at h
    by_cases e : c = d
    · subst e; exact .inr (ConnW.refl M x y c)
    · rw [if_neg e] at h; exact .inl ((ho d hd).1 h)
  · rw [hs]
    by_cases e : c = d
    · rw [if_pos e]
    · rw [if_neg e]; exact (ho d hd).2 h
  · rw [hs, if_pos rfl]
  · obtain rfl := List.mem_singleton.1 hd
    exact ⟨hc, by rw [hs, if_pos rfl], ConnW.refl M x y d⟩
  · rw [hs] at h
    by_cases e : c = d
    · subst e; exact absurd (List.mem_singleton.2 rfl) hr
    · rw [if_neg e] at h; exact absurd ((ho d hd).1 h) hn
theorem pop {t : List Nat} (h : Sr M x y n c old seen (b :: t) n 0) : Sr M x y n c old seen t b 0 ∧ b < n := by
  have hb := h.wait b List.mem_cons_self
  refine ⟨⟨h.len, h.only, h.olds, h.root, fun d hd => h.wait d (List.mem_cons_of_mem _ hd), fun d hd h1 h2 h3 h4 => h.done d hd h1 h2 (fun e => ?_) (by omega), fun _ => ⟨hb.2.2, fun s hs => by omega⟩⟩, hb.1⟩
  rcases List.mem_cons.1 e with e | e
  · exact h4 e
  · exact h3 e
theorem skip (h : Sr M x y n c old seen rest b k) (hk : 4 * b + k = x ∨ mt M (4 * b + k) = x ∨ 4 * b + k = y ∨ mt M (4 * b + k) = y ∨ bth seen (mt M (4 * b + k) / 4) = true) : Sr M x y n c old seen rest b (k + 1) :=
  ⟨h.len, h.only, h.olds, h.root, h.wait, h.done, fun hb => ⟨(h.now hb).1, fun s hs h1 h2 h3 h4 => by
    rcases Nat.lt_or_ge s k with g | g
    · exact (h.now hb).2 s g h1 h2 h3 h4
    · obtain rfl : s = k := by omega
      rcases hk with e | e | e | e | e
      · exact absurd e h1
      · exact absurd e h2
      · exact absurd e h3
      · exact absurd e h4
      · exact e⟩⟩
theorem push (h : Sr M x y n c old seen rest b k) (hb : b < n) (hk4 : k < 4) (h1 : 4 * b + k ≠ x) (h2 : mt M (4 * b + k) ≠ x) (h3 : 4 * b + k ≠ y) (h4 : mt M (4 * b + k) ≠ y) (hm : mt M (4 * b + k) / 4 < n) (hn : bth seen (mt M (4 * b + k) / 4) = false) :
    Sr M x y n c old (seen.set (mt M (4 * b + k) / 4) true) (rest ++ [mt M (4 * b + k) / 4]) b (k + 1) := by
  obtain ⟨m, hme⟩ : ∃ m, m = mt M (4 * b + k) / 4 := ⟨_, rfl⟩
  rw [← hme] at hm hn ⊢
  have hs := fun j => bth_set seen m j true (by rw [h.len]; exact hm)
  have keep : ∀ d, bth seen d = true → bth (seen.set m true) d = true := fun d hd => by
    rw [hs]
    by_cases e : m = d
    · rw [if_pos e]
    · rw [if_neg e]; exact hd
  have hcm : ConnW M x y c m := (h.now hb).1.step ⟨k, hk4, h1, h2, h3, h4, hme.symm⟩
  refine ⟨by rw [List.length_set, h.len], fun d hd g => ?_, fun d hd g => keep d (h.olds d hd g), keep c h.root, fun d hd => ?_, fun d hd g1 g2 g3 g4 e he => ?_, fun _ => ⟨(h.now hb).1, fun s hs' a1 a2 a3 a4 => ?_⟩⟩
  · rw [hs] at g
    by_cases e : m = d
    · subst e; exact .inr hcm
    · rw [if_neg e] at g; exact h.only d hd g
  · rcases List.mem_append.1 hd with e | e
    · have := h.wait d e; exact ⟨this.1, keep d this.2.1, this.2.2⟩
    · obtain rfl := List.mem_singleton.1 e
      exact ⟨hm, by rw [hs, if_pos rfl], hcm⟩
  · rw [hs] at g1
    by_cases u : m = d
    · subst u; exact absurd (List.mem_append.2 (.inr (List.mem_singleton.2 rfl))) g3
    · rw [if_neg u] at g1
      exact keep e (h.done d hd g1 g2 (fun z => g3 (List.mem_append.2 (.inl z))) g4 e he)
  · rcases Nat.lt_or_ge s k with g | g
    · exact keep _ ((h.now hb).2 s g a1 a2 a3 a4)
    · obtain rfl : s = k := by omega
      rw [← hme, hs, if_pos rfl]
theorem close (h : Sr M x y n c old seen rest b 4) (hb : b < n) : Sr M x y n c old seen rest n 0 :=
  ⟨h.len, h.only, h.olds, h.root, h.wait, fun d hd h1 h2 h3 _ e he => by
    by_cases u : d = b
    · subst u
      obtain ⟨s, s4, a1, a2, a3, a4, rfl⟩ := he
      exact (h.now hb).2 s s4 a1 a2 a3 a4
    · exact h.done d hd h1 h2 h3 u e he, fun g => absurd g (Nat.lt_irrefl _)⟩
theorem fin (h : Sr M x y n c old seen [] n 0) (hm : Mates M n) (hc : c < n) (ho : ∀ d e, d < n → old d → AdjW M x y d e → old e) : ∀ d, d < n → (bth seen d = true ↔ old d ∨ ConnW M x y c d) := fun d hd =>
  ⟨h.only d hd, fun g => by
    rcases g with g | g
    · exact h.olds d hd g
    · exact (g (fun u => u < n ∧ bth seen u = true) ⟨hc, h.root⟩ fun a e ⟨ha, hs⟩ hae => by
        have he := adjW_lt hm ha hae
        refine ⟨he, ?_⟩
        by_cases u : old a
        · exact h.olds e he (ho a e ha u hae)
        · exact h.done a ha hs u (by simp) (by omega) e hae).2⟩
end Sr
/-- The classes among the first c. -/
noncomputable def ncTo (M : List Int) (x y n c : Nat) : Nat := cnt (fun z => true && @decide (∀ u, u < n → ConnW M x y z u → z ≤ u) (Classical.propDecidable _)) c
/-- What is seen before c. -/
def oldW (M : List Int) (x y c d : Nat) : Prop := ∃ e, e < c ∧ ConnW M x y e d
theorem oldW_step {M : List Int} {x y n c : Nat} : ∀ d e, d < n → oldW M x y c d → AdjW M x y d e → oldW M x y c e := fun _ _ _ ⟨u, hu, h⟩ ha => ⟨u, hu, h.step ha⟩
theorem oldW_succ {M : List Int} {x y c d : Nat} : oldW M x y (c + 1) d ↔ oldW M x y c d ∨ ConnW M x y c d := by
  constructor
  · rintro ⟨e, he, h⟩
    rcases Nat.lt_or_ge e c with g | g
    · exact .inl ⟨e, g, h⟩
    · obtain rfl : e = c := by omega
      exact .inr h
  · rintro (⟨e, he, h⟩ | h)
    · exact ⟨e, by omega, h⟩
    · exact ⟨c, by omega, h⟩
theorem ncTo_old {M : List Int} {x y n c : Nat} (hm : Mates M n) (hc : c < n) (h : oldW M x y c c) : ncTo M x y n (c + 1) = ncTo M x y n c ∧ ∀ d, d < n → (oldW M x y (c + 1) d ↔ oldW M x y c d) := by
  obtain ⟨e, he, g⟩ := h
  refine ⟨?_, fun d _ => ?_⟩
  · unfold ncTo
    rw [cnt_succ]
    have : ¬ ∀ u, u < n → ConnW M x y c u → c ≤ u := fun k => by have := k e (by omega) (connW_symm hm (by omega) g); omega
    simp [this]
  · rw [oldW_succ]
    exact ⟨fun k => k.elim id fun k => ⟨e, he, g.trans k⟩, .inl⟩
theorem ncTo_new {M : List Int} {x y n c : Nat} (hm : Mates M n) (hc : c < n) (h : ¬ oldW M x y c c) : ncTo M x y n (c + 1) = ncTo M x y n c + 1 := by
  unfold ncTo
  rw [cnt_succ]
  have : ∀ u, u < n → ConnW M x y c u → c ≤ u := fun u hu k => by
    rcases Nat.lt_or_ge u c with g | g
    · exact absurd ⟨u, g, connW_symm hm hc k⟩ h
    · exact g
  simp
  exact this
theorem ncTo_le (M : List Int) (x y n : Nat) : ∀ c, ncTo M x y n c ≤ c := fun c => by
  induction c with
  | zero => exact Nat.le_refl _
  | succ c ih => unfold ncTo at ih ⊢; rw [cnt_succ]; split <;> omega
theorem ncTo_all (M : List Int) (x y n : Nat) : ncTo M x y n n = nc (ConnW M x y) (fun _ => true) n := by
  unfold ncTo nc
  refine cnt_congr fun z _ => ?_
  rw [Bool.true_and, Bool.true_and, decide_eq_decide]
end Go.Proofs.Ytmjoijfafachhaa
