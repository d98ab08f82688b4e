/- Plain law: the matrix of the linking numbers; its sums. -/
import Derived.Test.YtkopbcehfbmnmaaTri0
namespace Go.Proofs.Ytkopbcehfbmnmaa
open Go Go.RowKit
/-- The sum of the signs of the crossings of i and k. -/
def pr (S : List Int) (f : Nat → Int × Int) (i k : Nat) : Int := sumTo S f (isPair i k) S.length
/-- One element. -/
def matE (S : List Int) (f : Nat → Int × Int) (i k : Nat) : Int := if i = k then pr S f i k else (pr S f i k).tdiv 2
/-- A table. -/
def tab (g : Nat → Nat → Int) (N K : Nat) : List (List Int) := (List.range N).map fun i => (List.range K).map fun k => g i k
/-- The matrix. -/
def matL (S : List Int) (f : Nat → Int × Int) (N : Nat) : List (List Int) := tab (matE S f) N N
theorem tab_len (g : Nat → Nat → Int) (N K : Nat) : (tab g N K).length = N := by simp [tab]
theorem tab_get (g : Nat → Nat → Int) (N K i : Nat) (hi : i < N) : (tab g N K)[i]? = some ((List.range K).map fun k => g i k) := by simp [tab, hi]
theorem tab_row (g : Nat → Nat → Int) (N K i : Nat) (hi : i < N) : (tab g N K).getD i [] = (List.range K).map fun k => g i k := by rw [List.getD_eq_getElem?_getD, tab_get g N K i hi]; rfl
theorem nth_row (h : Nat → Int) (K k : Nat) (hk : k < K) : nth ((List.range K).map h) k = h k := by simp [nth, hk]
theorem row_len (h : Nat → Int) (K : Nat) : ((List.range K).map h).length = K := by simp
theorem row_snoc (h : Nat → Int) (K : Nat) : (List.range K).map h ++ [h K] = (List.range (K + 1)).map h := by rw [List.range_succ, List.map_append]; rfl
theorem tab_snoc (g : Nat → Nat → Int) (N K : Nat) : tab g N K ++ [(List.range K).map fun k => g N k] = tab g (N + 1) K := by unfold tab; rw [List.range_succ, List.map_append]; rfl
theorem tab_congr {g h : Nat → Nat → Int} {N K : Nat} (e : ∀ i k, i < N → k < K → g i k = h i k) : tab g N K = tab h N K := by
  unfold tab
  refine List.map_congr_left fun i hi => List.map_congr_left fun k hk => ?_
  rw [List.mem_range] at hi hk
  exact e i k hi hk
theorem pr_comm (S : List Int) (f : Nat → Int × Int) (i k : Nat) : pr S f i k = pr S f k i := by
  unfold pr
  congr 1
  funext u o
  exact isPair_comm _ _ _ _
theorem matE_comm (S : List Int) (f : Nat → Int × Int) (i k : Nat) : matE S f i k = matE S f k i := by
  unfold matE
  rw [pr_comm]
  by_cases h : i = k
  · rw [if_pos h, if_pos h.symm]
  · rw [if_neg h, if_neg (fun e => h e.symm)]
/-- The diagonal's sum. -/
def diagTo (g : Nat → Nat → Int) : Nat → Int
  | 0 => 0
  | i + 1 => diagTo g i + g i i
/-- The sum of the first rows. -/
def sqTo (g : Nat → Nat → Int) (K : Nat) : Nat → Int
  | 0 => 0
  | i + 1 => sqTo g K i + rowTo g i K
theorem sqTo_wide (g : Nat → Nat → Int) (hg : ∀ i k, g i k = g k i) (K : Nat) : ∀ N, sqTo g (K + 1) N = sqTo g K N + rowTo g K N
  | 0 => rfl
  | N + 1 => by
    rw [sqTo, sqTo, sqTo_wide g hg K N, rowTo, rowTo, hg K N]; omega
theorem sqTo_sym (g : Nat → Nat → Int) (hg : ∀ i k, g i k = g k i) : ∀ N, sqTo g N N = diagTo g N + 2 * triTo g N
  | 0 => rfl
  | N + 1 => by
    rw [sqTo, sqTo_wide g hg, sqTo_sym g hg N, diagTo, triTo, rowTo]; omega
theorem diagTo_congr {g h : Nat → Nat → Int} {N : Nat} (e : ∀ a, a < N → g a a = h a a) : diagTo g N = diagTo h N := by
  induction N with
  | zero => rfl
  | succ N ih => rw [diagTo, diagTo, ih fun a h => e a (by omega), e N (by omega)]
theorem diagTo_add (g h : Nat → Nat → Int) (N : Nat) : diagTo (fun a b => g a b + h a b) N = diagTo g N + diagTo h N := by
  induction N with
  | zero => rfl
  | succ N ih => rw [diagTo, diagTo, diagTo, ih]; omega
theorem diagTo_one (u o : Nat) (s : Int) : ∀ N, diagTo (fun a b => if isPair (a : Int) b u o = true then s else 0) N = if u = o ∧ u < N then s else 0
  | 0 => by rw [diagTo, if_neg (by omega)]
  | N + 1 => by
    rw [diagTo, diagTo_one u o s N]
    have h := isPair_iff N N u o
    by_cases h1 : u = N ∧ o = N
    · rw [if_pos (h.2 (.inl h1)), if_neg (by omega), if_pos (by omega)]; omega
    · have hn : ¬ isPair (N : Int) N u o = true := fun e => h1 (by have := h.1 e; omega)
      rw [if_neg hn]
      by_cases h2 : u = o ∧ u < N
      · rw [if_pos h2, if_pos (by omega)]; omega
      · rw [if_neg h2, if_neg (by omega)]; omega
/-- All crossings: those of one strand, those of two. -/
theorem sum_all (S : List Int) (f : Nat → Int × Int) (N : Nat) : ∀ k, (∀ c, c < k → ∃ u o : Nat, f c = ((u : Int), (o : Int)) ∧ u < N ∧ o < N) → sumTo S f (fun _ _ => true) k = diagTo (fun a b => sumTo S f (isPair a b) k) N + triTo (fun a b => sumTo S f (isPair a b) k) N
  | 0, _ => by
    have h0 : ∀ a m, rowTo (fun _ _ => (0 : Int)) a m = 0 := fun a m => by
      induction m with
      | zero => rfl
      | succ m ih => rw [rowTo, ih]; rfl
    have h1 : ∀ n, triTo (fun _ _ => (0 : Int)) n = 0 := by
      intro n
      induction n with
      | zero => rfl
      | succ n ih => rw [triTo, ih, h0]; rfl
    have h2 : ∀ n, diagTo (fun _ _ => (0 : Int)) n = 0 := by
      intro n
      induction n with
      | zero => rfl
      | succ n ih => rw [diagTo, ih]; rfl
    show (0 : Int) = diagTo (fun _ _ => (0 : Int)) N + triTo (fun _ _ => (0 : Int)) N
    rw [h1, h2]; rfl
  | k + 1, h => by
    obtain ⟨u, o, hf, hu, ho⟩ := h k (by omega)
    have ih := sum_all S f N k fun c hc => h c (by omega)
    have e : ∀ a b : Nat, sumTo S f (isPair (a : Int) b) (k + 1) = sumTo S f (isPair (a : Int) b) k + if isPair (a : Int) b u o = true then nth S k else 0 := fun a b => by
      rw [sumTo, hf]
      show (if isPair (a : Int) b u o = true then _ else _) = _
      split <;> omega
    rw [triTo_congr (fun a b _ _ => e a b), diagTo_congr (h := fun a b => sumTo S f (isPair (a : Int) b) k + if isPair (a : Int) b u o = true then nth S k else 0) (fun a _ => e a a), triTo_add (fun a b => sumTo S f (isPair (a : Int) b) k) (fun a b => if isPair (a : Int) b u o = true then nth S k else 0), diagTo_add (fun a b => sumTo S f (isPair (a : Int) b) k) (fun a b => if isPair (a : Int) b u o = true then nth S k else 0), triTo_one, diagTo_one, sumTo]
    show sumTo S f (fun _ _ => true) k + nth S k = _
    rw [ih]
    by_cases g : u = o
    · rw [if_pos ⟨g, hu⟩, if_neg (fun e => e.1 g)]; omega
    · rw [if_neg (fun e => g e.1), if_pos ⟨g, by omega⟩]; omega
theorem owner_lt {S M : List Int} {L : Int} (hv : vldB S M L = true) (N : Nat) (hN : (strandsL S M L).length ≤ N) (c : Nat) (hc : c < S.length) : ∃ u o : Nat, ownF (strandsL S M L) c = ((u : Int), (o : Int)) ∧ u < N ∧ o < N := by
  have hs := vldB_shape hv
  have hlen : (strandsL S M L).length = (leasts S M).length := by rw [strandsL_leasts hv, List.length_map]
  exact ⟨_, _, ownF_eq hv c hc, by have := ix_lt hs (x := 4 * c + 2) (by omega); omega, by have := ix_lt hs (x := 4 * c + 1) (by omega); omega⟩
/-- THE WRITHE IS THE SUM OF ALL ELEMENTS. -/
theorem writhe_sq {S M : List Int} {L : Int} (hv : vldB S M L = true) (N : Nat) (hN : (strandsL S M L).length ≤ N) : sumTo S (ownF (strandsL S M L)) (fun _ _ => true) S.length = sqTo (matE S (ownF (strandsL S M L))) N N := by
  rw [sum_all S _ N S.length (owner_lt hv N hN), sqTo_sym _ (matE_comm S _)]
  have h1 : diagTo (matE S (ownF (strandsL S M L))) N = diagTo (fun a b => sumTo S (ownF (strandsL S M L)) (isPair a b) S.length) N := diagTo_congr fun a _ => if_pos rfl
  have h2 : triTo (fun a b => sumTo S (ownF (strandsL S M L)) (isPair a b) S.length) N = triTo (fun a b => 2 * matE S (ownF (strandsL S M L)) a b) N := triTo_congr fun a b hb _ => by
    have := pair_sum_even hv a b (by omega)
    unfold matE pr
    rw [if_neg (by omega)]
    generalize sumTo S (ownF (strandsL S M L)) (isPair a b) S.length = t at *
    rw [Int.mul_comm, Int.tdiv_mul_cancel (Int.dvd_of_emod_eq_zero this)]
  rw [h1, h2, triTo_mul]
/-- .. below the diagonal: the total. -/
theorem total_mat {S M : List Int} {L : Int} (hv : vldB S M L = true) (N : Nat) (hN : (strandsL S M L).length ≤ N) : (sumTo S (ownF (strandsL S M L)) (fun u o => u != o) S.length).tdiv 2 = triTo (matE S (ownF (strandsL S M L))) N := by
  rw [total_tri hv N hN]
  refine triTo_congr fun a b hb _ => ?_
  unfold matE pr
  rw [if_neg (by omega)]
/-- The self-writhes. -/
theorem self_mat (S : List Int) (f : Nat → Int × Int) (i : Nat) : sumTo S f (fun u o => u == (i : Int) && o == (i : Int)) S.length = matE S f i i := by
  unfold matE pr
  rw [if_pos rfl]
  congr 1
  funext u o
  unfold isPair
  cases u == (i : Int) <;> cases o == (i : Int) <;> rfl
/-- A component that no crossing has. -/
theorem pr_none {S M : List Int} {L : Int} (hv : vldB S M L = true) (i k : Nat) (h : (strandsL S M L).length ≤ i ∨ (strandsL S M L).length ≤ k) : pr S (ownF (strandsL S M L)) i k = 0 := by
  unfold pr
  have key : ∀ c, c ≤ S.length → sumTo S (ownF (strandsL S M L)) (isPair i k) c = 0 := by
    intro c
    induction c with
    | zero => intro _; rfl
    | succ c ih =>
      intro hc
      obtain ⟨u, o, hf, hu, ho⟩ := owner_lt hv _ (Nat.le_refl _) c (by omega)
      rw [sumTo, hf, ih (by omega)]
      have : ¬ isPair (i : Int) k u o = true := fun e => by have := (isPair_iff i k u o).1 e; omega
      exact if_neg this
  exact key _ (Nat.le_refl _)
end Go.Proofs.Ytkopbcehfbmnmaa
