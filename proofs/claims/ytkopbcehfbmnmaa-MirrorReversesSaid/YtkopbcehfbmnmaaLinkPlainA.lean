/- Plain laws: the matrix of the linking numbers, its sums, totals under renamings. -/
import Derived.Test.YtkopbcehfbmnmaaStrandA
import Derived.Test.YtkopbcehfbmnmaaNumberW
namespace Go.Proofs.Ytkopbcehfbmnmaa
open Go Go.RowKit
/-! ### Plain law: the total linking number out of the matrix. -/
/-- The sum of a row's first m. -/
def rowTo (g : Nat → Nat → Int) (a : Nat) : Nat → Int
  | 0 => 0
  | m + 1 => rowTo g a m + g a m
/-- The sum below the diagonal. -/
def triTo (g : Nat → Nat → Int) : Nat → Int
  | 0 => 0
  | a + 1 => triTo g a + rowTo g a a
theorem rowTo_congr {g h : Nat → Nat → Int} {a : Nat} {m : Nat} (e : ∀ b, b < m → g a b = h a b) : rowTo g a m = rowTo h a m := by
  induction m with
  | zero => rfl
  | succ m ih => rw [rowTo, rowTo, ih fun b hb => e b (by omega), e m (by omega)]
theorem triTo_congr {g h : Nat → Nat → Int} {N : Nat} (e : ∀ a b, b < a → a < N → g a b = h a b) : triTo g N = triTo h N := by
  induction N with
  | zero => rfl
  | succ N ih => rw [triTo, triTo, ih fun a b h1 h2 => e a b h1 (by omega), rowTo_congr fun b hb => e N b hb (by omega)]
theorem rowTo_add (g h : Nat → Nat → Int) (a m : Nat) : rowTo (fun a b => g a b + h a b) a m = rowTo g a m + rowTo h a m := by
  induction m with
  | zero => rfl
  | succ m ih => rw [rowTo, rowTo, rowTo, ih]; omega
theorem triTo_add (g h : Nat → Nat → Int) (N : Nat) : triTo (fun a b => g a b + h a b) N = triTo g N + triTo h N := by
  induction N with
  | zero => rfl
  | succ N ih => rw [triTo, triTo, triTo, ih, rowTo_add]; omega
theorem rowTo_mul (g : Nat → Nat → Int) (a m : Nat) : rowTo (fun a b => 2 * g a b) a m = 2 * rowTo g a m := by
  induction m with
  | zero => rfl
  | succ m ih => rw [rowTo, rowTo, ih]; omega
theorem triTo_mul (g : Nat → Nat → Int) (N : Nat) : triTo (fun a b => 2 * g a b) N = 2 * triTo g N := by
  induction N with
  | zero => rfl
  | succ N ih => rw [triTo, triTo, ih, rowTo_mul]; omega
theorem isPair_iff (a b u o : Nat) : isPair (a : Int) b u o = true ↔ (u = a ∧ o = b) ∨ (u = b ∧ o = a) := by
  unfold isPair
  simp only [Bool.or_eq_true, Bool.and_eq_true, beq_iff_eq]
  omega
theorem isPair_comm (i k u o : Int) : isPair i k u o = isPair k i u o := by
  unfold isPair
  rw [Bool.or_comm]
theorem rowTo_one (u o : Nat) (s : Int) (a : Nat) : ∀ m, m ≤ a → rowTo (fun a b => if isPair (a : Int) b u o = true then s else 0) a m = if u ≠ o ∧ a = max u o ∧ min u o < m then s else 0
  | 0, _ => by rw [rowTo, if_neg (by omega)]
  | m + 1, h => by
    rw [rowTo, rowTo_one u o s a m (by omega)]
    by_cases h1 : u ≠ o ∧ a = max u o ∧ min u o = m
    · have h2 : isPair (a : Int) m u o = true := (isPair_iff a m u o).2 (by omega)
      rw [if_neg (by omega), if_pos h2, if_pos (by omega)]; omega
    · have h2 : ¬ isPair (a : Int) m u o = true := fun e => h1 (by have := (isPair_iff a m u o).1 e; omega)
      rw [if_neg h2]
      by_cases h3 : u ≠ o ∧ a = max u o ∧ min u o < m
      · rw [if_pos h3, if_pos (by omega)]; omega
      · rw [if_neg h3, if_neg (by omega)]; omega
theorem triTo_one (u o : Nat) (s : Int) : ∀ N, triTo (fun a b => if isPair (a : Int) b u o = true then s else 0) N = if u ≠ o ∧ max u o < N then s else 0
  | 0 => by rw [triTo, if_neg (by omega)]
  | N + 1 => by
    rw [triTo, triTo_one u o s N, rowTo_one u o s N N (Nat.le_refl _)]
    by_cases h1 : u ≠ o ∧ max u o < N
    · rw [if_pos h1, if_neg (by omega), if_pos (by omega)]; omega
    · rw [if_neg h1]
      by_cases h2 : u ≠ o ∧ N = max u o ∧ min u o < N
      · rw [if_pos h2, if_pos (by omega)]; omega
      · rw [if_neg h2, if_neg (by omega)]; omega
/-- The crossings of two strands, by pairs. -/
theorem sum_tri (S : List Int) (f : Nat → Int × Int) (N : Nat) : ∀ k, (∀ c, c < k → ∃ u o : Nat, f c = ((u : Int), (o : Int)) ∧ u < N ∧ o < N) → sumTo S f (fun u o => u != o) k = triTo (fun a b => sumTo S f (isPair a b) k) N
  | 0, _ => by
    have : ∀ n, triTo (fun _ _ => (0 : Int)) n = 0 := by
      have h0 : ∀ a m, rowTo (fun _ _ => (0 : Int)) a m = 0 := fun a m => by
        induction m with
        | zero => rfl
        | succ m ih => rw [rowTo, ih]; rfl
      intro n
      induction n with
      | zero => rfl
      | succ n ih => rw [triTo, ih, h0]; rfl
    exact (this N).symm
  | k + 1, h => by
    obtain ⟨u, o, hf, hu, ho⟩ := h k (by omega)
    have ih := sum_tri S f N k fun c hc => h c (by omega)
    have e : ∀ a b, b < a → a < N → sumTo S f (isPair (a : Int) b) (k + 1) = sumTo S f (isPair (a : Int) b) k + if isPair (a : Int) b u o = true then nth S k else 0 := fun a b _ _ => by
      rw [sumTo, hf]
      show (if isPair (a : Int) b u o = true then _ else _) = _
      split <;> omega
    rw [triTo_congr e, triTo_add (fun a b => sumTo S f (isPair (a : Int) b) k) (fun a b => if isPair (a : Int) b u o = true then nth S k else 0), triTo_one, ← ih, sumTo, hf]
    show (if ((u : Int) != (o : Int)) = true then _ else _) = _
    by_cases g : u = o
    · have : ((u : Int) != (o : Int)) = false := by rw [bne_eq_false_iff_eq, g]
      rw [this, if_neg (by decide), if_neg (by omega)]; omega
    · have : ((u : Int) != (o : Int)) = true := by rw [bne_iff_ne]; omega
      rw [this, if_pos rfl, if_pos (by omega)]
/-- A sum of signs is as even as their number. -/
theorem sum_parity (S : List Int) (f : Nat → Int × Int) (keep : Int → Int → Bool) : ∀ k, (∀ c, c < k → nth S c = 1 ∨ nth S c = -1) → (sumTo S f keep k - (cnt (fun c => keep (f c).1 (f c).2) k : Nat)) % 2 = 0
  | 0, _ => rfl
  | k + 1, h => by
    have ih := sum_parity S f keep k fun c hc => h c (by omega)
    have := h k (by omega)
    rw [sumTo, cnt_succ]
    by_cases g : keep (f k).1 (f k).2 = true
    · rw [if_pos g, if_pos g]; omega
    · rw [if_neg g, if_neg g]; omega
/-- .. of two strands: even. -/
theorem pair_sum_even {S M : List Int} {L : Int} (hv : vldB S M L = true) (a b : Nat) (hab : a ≠ b) : sumTo S (ownF (strandsL S M L)) (isPair a b) S.length % 2 = 0 := by
  have hs := vldB_shape hv
  have h1 := sum_parity S (ownF (strandsL S M L)) (isPair a b) S.length fun c hc => hs.sign c hc
  by_cases hlt : a < (leasts S M).length ∧ b < (leasts S M).length
  · obtain ⟨p, hp⟩ : ∃ p, (leasts S M)[a]? = some p := ⟨_, List.getElem?_eq_getElem hlt.1⟩
    obtain ⟨q, hq⟩ : ∃ q, (leasts S M)[b]? = some q := ⟨_, List.getElem?_eq_getElem hlt.2⟩
    have hpq : p ≠ q := by
      intro e
      rw [← e] at hq
      exact hab ((List.getElem?_inj hlt.1 (leasts_nodup S M)).1 (hp.trans hq.symm))
    have h2 := pair_even hv p q hpq
    have h3 : cnt (fun c => isPair a b (ownF (strandsL S M L) c).1 (ownF (strandsL S M L) c).2) S.length = cnt (fun c => decide ((st S M (4 * c + 2) = p ∧ st S M (4 * c + 1) = q) ∨ (st S M (4 * c + 2) = q ∧ st S M (4 * c + 1) = p))) S.length := cnt_congr fun c hc => by
      rw [ownF_eq hv c hc]
      have i1 := fun k => ix_iff hs (x := 4 * c + 2) (k := k) (by omega)
      have i2 := fun k => ix_iff hs (x := 4 * c + 1) (k := k) (by omega)
      have e1 : ix S M (4 * c + 2) = a ↔ st S M (4 * c + 2) = p := by rw [i1, hp]; simp [eq_comm]
      have e2 : ix S M (4 * c + 2) = b ↔ st S M (4 * c + 2) = q := by rw [i1, hq]; simp [eq_comm]
      have e3 : ix S M (4 * c + 1) = a ↔ st S M (4 * c + 1) = p := by rw [i2, hp]; simp [eq_comm]
      have e4 : ix S M (4 * c + 1) = b ↔ st S M (4 * c + 1) = q := by rw [i2, hq]; simp [eq_comm]
      rw [Bool.eq_iff_iff, isPair_iff, decide_eq_true_eq, e1, e2, e3, e4]
    omega
  · have h3 : cnt (fun c => isPair a b (ownF (strandsL S M L) c).1 (ownF (strandsL S M L) c).2) S.length = 0 := cnt_none fun c hc => by
      rw [ownF_eq hv c hc, ← Bool.not_eq_true]
      intro h
      have h := (isPair_iff _ _ _ _).1 h
      have a1 := ix_lt hs (x := 4 * c + 2) (by omega)
      have a2 := ix_lt hs (x := 4 * c + 1) (by omega)
      omega
    omega
/-- THE TOTAL LINKING NUMBER IS THE SUM OF THE MATRIX BELOW THE DIAGONAL. -/
theorem total_tri {S M : List Int} {L : Int} (hv : vldB S M L = true) (N : Nat) (hN : (strandsL S M L).length ≤ N) : (sumTo S (ownF (strandsL S M L)) (fun u o => u != o) S.length).tdiv 2 = triTo (fun a b => (sumTo S (ownF (strandsL S M L)) (isPair a b) S.length).tdiv 2) N := by
  have hs := vldB_shape hv
  have hlen : (strandsL S M L).length = (leasts S M).length := by rw [strandsL_leasts hv, List.length_map]
  have h1 := sum_tri S (ownF (strandsL S M L)) N S.length fun c hc => ⟨_, _, ownF_eq hv c hc, by have := ix_lt hs (x := 4 * c + 2) (by omega); omega, by have := ix_lt hs (x := 4 * c + 1) (by omega); omega⟩
  have h2 : triTo (fun a b => sumTo S (ownF (strandsL S M L)) (isPair a b) S.length) N = triTo (fun a b => 2 * (sumTo S (ownF (strandsL S M L)) (isPair a b) S.length).tdiv 2) N := triTo_congr fun a b hb _ => by
    have := pair_sum_even hv a b (by omega)
    generalize sumTo S (ownF (strandsL S M L)) (isPair a b) S.length = t at *
    rw [Int.mul_comm, Int.tdiv_mul_cancel (Int.dvd_of_emod_eq_zero this)]
  rw [h1, h2, triTo_mul (fun a b => (sumTo S (ownF (strandsL S M L)) (isPair a b) S.length).tdiv 2)]
  generalize triTo _ N = t
  exact Int.mul_tdiv_cancel_left t (by omega)
/-! ### Plain law: the matrix of the linking numbers; its sums. -/
/-- The sum of the signs of the crossings of i and k. -/
def pr (S : List Int) (f : Nat → Int × Int) (i k : Nat) : Int := sumTo S f (isPair i k) S.length
/-- One element. -/
def matE (S : List Int) (f : Nat → Int × Int) (i k : Nat) : Int := if i = k then pr S f i k else (pr S f i k).tdiv 2
/-- A table. -/
def tab (g : Nat → Nat → Int) (N K : Nat) : List (List Int) := (List.range N).map fun i => (List.range K).map fun k => g i k
/-- The matrix. -/
def matL (S : List Int) (f : Nat → Int × Int) (N : Nat) : List (List Int) := tab (matE S f) N N
theorem tab_len (g : Nat → Nat → Int) (N K : Nat) : (tab g N K).length = N := by simp [tab]
theorem tab_get (g : Nat → Nat → Int) (N K i : Nat) (hi : i < N) : (tab g N K)[i]? = some ((List.range K).map fun k => g i k) := by simp [tab, hi]
theorem tab_row (g : Nat → Nat → Int) (N K i : Nat) (hi : i < N) : (tab g N K).getD i [] = (List.range K).map fun k => g i k := by rw [List.getD_eq_getElem?_getD, tab_get g N K i hi]; rfl
theorem nth_row (h : Nat → Int) (K k : Nat) (hk : k < K) : nth ((List.range K).map h) k = h k := by simp [nth, hk]
theorem row_len (h : Nat → Int) (K : Nat) : ((List.range K).map h).length = K := by simp
theorem row_snoc (h : Nat → Int) (K : Nat) : (List.range K).map h ++ [h K] = (List.range (K + 1)).map h := by rw [List.range_succ, List.map_append]; rfl
theorem tab_snoc (g : Nat → Nat → Int) (N K : Nat) : tab g N K ++ [(List.range K).map fun k => g N k] = tab g (N + 1) K := by unfold tab; rw [List.range_succ, List.map_append]; rfl
theorem tab_congr {g h : Nat → Nat → Int} {N K : Nat} (e : ∀ i k, i < N → k < K → g i k = h i k) : tab g N K = tab h N K := by
  unfold tab
  refine List.map_congr_left fun i hi => List.map_congr_left fun k hk => ?_
  rw [List.mem_range] at hi hk
  exact e i k hi hk
theorem pr_comm (S : List Int) (f : Nat → Int × Int) (i k : Nat) : pr S f i k = pr S f k i := by
  unfold pr
  congr 1
  funext u o
  exact isPair_comm _ _ _ _
theorem matE_comm (S : List Int) (f : Nat → Int × Int) (i k : Nat) : matE S f i k = matE S f k i := by
  unfold matE
  rw [pr_comm]
  by_cases h : i = k
  · rw [if_pos h, if_pos h.symm]
  · rw [if_neg h, if_neg (fun e => h e.symm)]
/-- The diagonal's sum. -/
def diagTo (g : Nat → Nat → Int) : Nat → Int
  | 0 => 0
  | i + 1 => diagTo g i + g i i
/-- The sum of the first rows. -/
def sqTo (g : Nat → Nat → Int) (K : Nat) : Nat → Int
  | 0 => 0
  | i + 1 => sqTo g K i + rowTo g i K
theorem sqTo_wide (g : Nat → Nat → Int) (hg : ∀ i k, g i k = g k i) (K : Nat) : ∀ N, sqTo g (K + 1) N = sqTo g K N + rowTo g K N
  | 0 => rfl
  | N + 1 => by
    rw [sqTo, sqTo, sqTo_wide g hg K N, rowTo, rowTo, hg K N]; omega
theorem sqTo_sym (g : Nat → Nat → Int) (hg : ∀ i k, g i k = g k i) : ∀ N, sqTo g N N = diagTo g N + 2 * triTo g N
  | 0 => rfl
  | N + 1 => by
    rw [sqTo, sqTo_wide g hg, sqTo_sym g hg N, diagTo, triTo, rowTo]; omega
theorem diagTo_congr {g h : Nat → Nat → Int} {N : Nat} (e : ∀ a, a < N → g a a = h a a) : diagTo g N = diagTo h N := by
  induction N with
  | zero => rfl
  | succ N ih => rw [diagTo, diagTo, ih fun a h => e a (by omega), e N (by omega)]
theorem diagTo_add (g h : Nat → Nat → Int) (N : Nat) : diagTo (fun a b => g a b + h a b) N = diagTo g N + diagTo h N := by
  induction N with
  | zero => rfl
  | succ N ih => rw [diagTo, diagTo, diagTo, ih]; omega
theorem diagTo_one (u o : Nat) (s : Int) : ∀ N, diagTo (fun a b => if isPair (a : Int) b u o = true then s else 0) N = if u = o ∧ u < N then s else 0
  | 0 => by rw [diagTo, if_neg (by omega)]
  | N + 1 => by
    rw [diagTo, diagTo_one u o s N]
    have h := isPair_iff N N u o
    by_cases h1 : u = N ∧ o = N
    · rw [if_pos (h.2 (.inl h1)), if_neg (by omega), if_pos (by omega)]; omega
    · have hn : ¬ isPair (N : Int) N u o = true := fun e => h1 (by have := h.1 e; omega)
      rw [if_neg hn]
      by_cases h2 : u = o ∧ u < N
      · rw [if_pos h2, if_pos (by omega)]; omega
      · rw [if_neg h2, if_neg (by omega)]; omega
/-- All crossings: those of one strand, those of two. -/
theorem sum_all (S : List Int) (f : Nat → Int × Int) (N : Nat) : ∀ k, (∀ c, c < k → ∃ u o : Nat, f c = ((u : Int), (o : Int)) ∧ u < N ∧ o < N) → sumTo S f (fun _ _ => true) k = diagTo (fun a b => sumTo S f (isPair a b) k) N + triTo (fun a b => sumTo S f (isPair a b) k) N
  | 0, _ => by
    have h0 : ∀ a m, rowTo (fun _ _ => (0 : Int)) a m = 0 := fun a m => by
      induction m with
      | zero => rfl
      | succ m ih => rw [rowTo, ih]; rfl
    have h1 : ∀ n, triTo (fun _ _ => (0 : Int)) n = 0 := by
      intro n
      induction n with
      | zero => rfl
      | succ n ih => rw [triTo, ih, h0]; rfl
    have h2 : ∀ n, diagTo (fun _ _ => (0 : Int)) n = 0 := by
      intro n
      induction n with
      | zero => rfl
      | succ n ih => rw [diagTo, ih]; rfl
    show (0 : Int) = diagTo (fun _ _ => (0 : Int)) N + triTo (fun _ _ => (0 : Int)) N
    rw [h1, h2]; rfl
  | k + 1, h => by
    obtain ⟨u, o, hf, hu, ho⟩ := h k (by omega)
    have ih := sum_all S f N k fun c hc => h c (by omega)
    have e : ∀ a b : Nat, sumTo S f (isPair (a : Int) b) (k + 1) = sumTo S f (isPair (a : Int) b) k + if isPair (a : Int) b u o = true then nth S k else 0 := fun a b => by
      rw [sumTo, hf]
      show (if isPair (a : Int) b u o = true then _ else _) = _
      split <;> omega
    rw [triTo_congr (fun a b _ _ => e a b), diagTo_congr (h := fun a b => sumTo S f (isPair (a : Int) b) k + if isPair (a : Int) b u o = true then nth S k else 0) (fun a _ => e a a), triTo_add (fun a b => sumTo S f (isPair (a : Int) b) k) (fun a b => if isPair (a : Int) b u o = true then nth S k else 0), diagTo_add (fun a b => sumTo S f (isPair (a : Int) b) k) (fun a b => if isPair (a : Int) b u o = true then nth S k else 0), triTo_one, diagTo_one, sumTo]
    show sumTo S f (fun _ _ => true) k + nth S k = _
    rw [ih]
    by_cases g : u = o
    · rw [if_pos ⟨g, hu⟩, if_neg (fun e => e.1 g)]; omega
    · rw [if_neg (fun e => g e.1), if_pos ⟨g, by omega⟩]; omega
theorem owner_lt {S M : List Int} {L : Int} (hv : vldB S M L = true) (N : Nat) (hN : (strandsL S M L).length ≤ N) (c : Nat) (hc : c < S.length) : ∃ u o : Nat, ownF (strandsL S M L) c = ((u : Int), (o : Int)) ∧ u < N ∧ o < N := by
  have hs := vldB_shape hv
  have hlen : (strandsL S M L).length = (leasts S M).length := by rw [strandsL_leasts hv, List.length_map]
  exact ⟨_, _, ownF_eq hv c hc, by have := ix_lt hs (x := 4 * c + 2) (by omega); omega, by have := ix_lt hs (x := 4 * c + 1) (by omega); omega⟩
/-- THE WRITHE IS THE SUM OF ALL ELEMENTS. -/
theorem writhe_sq {S M : List Int} {L : Int} (hv : vldB S M L = true) (N : Nat) (hN : (strandsL S M L).length ≤ N) : sumTo S (ownF (strandsL S M L)) (fun _ _ => true) S.length = sqTo (matE S (ownF (strandsL S M L))) N N := by
  rw [sum_all S _ N S.length (owner_lt hv N hN), sqTo_sym _ (matE_comm S _)]
  have h1 : diagTo (matE S (ownF (strandsL S M L))) N = diagTo (fun a b => sumTo S (ownF (strandsL S M L)) (isPair a b) S.length) N := diagTo_congr fun a _ => if_pos rfl
  have h2 : triTo (fun a b => sumTo S (ownF (strandsL S M L)) (isPair a b) S.length) N = triTo (fun a b => 2 * matE S (ownF (strandsL S M L)) a b) N := triTo_congr fun a b hb _ => by
    have := pair_sum_even hv a b (by omega)
    unfold matE pr
    rw [if_neg (by omega)]
    generalize sumTo S (ownF (strandsL S M L)) (isPair a b) S.length = t at *
    rw [Int.mul_comm, Int.tdiv_mul_cancel (Int.dvd_of_emod_eq_zero this)]
  rw [h1, h2, triTo_mul]
/-- .. below the diagonal: the total. -/
theorem total_mat {S M : List Int} {L : Int} (hv : vldB S M L = true) (N : Nat) (hN : (strandsL S M L).length ≤ N) : (sumTo S (ownF (strandsL S M L)) (fun u o => u != o) S.length).tdiv 2 = triTo (matE S (ownF (strandsL S M L))) N := by
  rw [total_tri hv N hN]
  refine triTo_congr fun a b hb _ => ?_
  unfold matE pr
  rw [if_neg (by omega)]
/-- The self-writhes. -/
theorem self_mat (S : List Int) (f : Nat → Int × Int) (i : Nat) : sumTo S f (fun u o => u == (i : Int) && o == (i : Int)) S.length = matE S f i i := by
  unfold matE pr
  rw [if_pos rfl]
  congr 1
  funext u o
  unfold isPair
  cases u == (i : Int) <;> cases o == (i : Int) <;> rfl
/-- A component that no crossing has. -/
theorem pr_none {S M : List Int} {L : Int} (hv : vldB S M L = true) (i k : Nat) (h : (strandsL S M L).length ≤ i ∨ (strandsL S M L).length ≤ k) : pr S (ownF (strandsL S M L)) i k = 0 := by
  unfold pr
  have key : ∀ c, c ≤ S.length → sumTo S (ownF (strandsL S M L)) (isPair i k) c = 0 := by
    intro c
    induction c with
    | zero => intro _; rfl
    | succ c ih =>
      intro hc
      obtain ⟨u, o, hf, hu, ho⟩ := owner_lt hv _ (Nat.le_refl _) c (by omega)
      rw [sumTo, hf, ih (by omega)]
      have : ¬ isPair (i : Int) k u o = true := fun e => by have := (isPair_iff i k u o).1 e; omega
      exact if_neg this
  exact key _ (Nat.le_refl _)
/-! ### Plain law: writhe and total linking number under renamings. -/
/-- A sum of the first k. -/
def wsum (g : Nat → Int) : Nat → Int
  | 0 => 0
  | k + 1 => wsum g k + g k
theorem wsum_congr {g h : Nat → Int} {k : Nat} (e : ∀ c, c < k → g c = h c) : wsum g k = wsum h k := by
  induction k with
  | zero => rfl
  | succ k ih => rw [wsum, wsum, ih fun c hc => e c (by omega), e k (by omega)]
theorem wsum_add (g h : Nat → Int) (k : Nat) : wsum (fun c => g c + h c) k = wsum g k + wsum h k := by
  induction k with
  | zero => rfl
  | succ k ih => rw [wsum, wsum, wsum, ih]; omega
theorem wsum_mul (a : Int) (g : Nat → Int) (k : Nat) : wsum (fun c => a * g c) k = a * wsum g k := by
  induction k with
  | zero => simp [wsum]
  | succ k ih => rw [wsum, wsum, ih, Int.mul_add]
theorem wsum_zero (k : Nat) : wsum (fun _ => 0) k = 0 := by
  induction k with
  | zero => rfl
  | succ k ih => rw [wsum, ih]; rfl
theorem wsum_one (a : Nat) (t : Int) (k : Nat) : wsum (fun c => if c = a then t else 0) k = if a < k then t else 0 := by
  induction k with
  | zero => rfl
  | succ k ih =>
    rw [wsum, ih]
    by_cases h1 : k = a
    · rw [if_neg (by omega), if_pos h1, if_pos (by omega)]; omega
    · rw [if_neg h1]
      by_cases h2 : a < k
      · rw [if_pos h2, if_pos (by omega)]; omega
      · rw [if_neg h2, if_neg (by omega)]; omega
theorem wsum_cnt (g : Nat → Int) (k : Nat) (h : ∀ c, c < k → g c = 1 ∨ g c = 0 ∨ g c = -1) : wsum g k = (cnt (fun c => decide (g c = 1)) k : Int) - (cnt (fun c => decide (g c = -1)) k : Int) := by
  induction k with
  | zero => rfl
  | succ k ih =>
    rw [wsum, ih fun c hc => h c (by omega), cnt_succ, cnt_succ]
    rcases h k (by omega) with e | e | e <;> rw [e] <;> simp <;> omega
theorem cnt_bij {p q : Nat → Bool} {n : Nat} {σ : Nat → Nat} (hσ : Inj σ n) (h : ∀ c, c < n → q (σ c) = p c) : cnt q n = cnt p n := by
  refine Nat.le_antisymm ?_ ?_
  · refine cnt_inj (back σ n) (fun x hx hq => ⟨back_lt hσ hx, ?_⟩) (fun x y hx hy _ _ he => (back_inj hσ).inj x y hx hy he)
    rw [← h _ (back_lt hσ hx), f_back hσ hx]; exact hq
  · exact cnt_inj σ (fun x hx hp => ⟨hσ.lt x hx, by rw [h x hx]; exact hp⟩) (fun x y hx hy _ _ he => hσ.inj x y hx hy he)
theorem wsum_bij {g h : Nat → Int} {n : Nat} {σ : Nat → Nat} (hσ : Inj σ n) (hg : ∀ c, c < n → g c = 1 ∨ g c = 0 ∨ g c = -1) (e : ∀ c, c < n → h (σ c) = g c) : wsum h n = wsum g n := by
  have hh : ∀ c, c < n → h c = 1 ∨ h c = 0 ∨ h c = -1 := fun c hc => by
    have := hg _ (back_lt hσ hc)
    rw [← e _ (back_lt hσ hc), f_back hσ hc] at this
    exact this
  rw [wsum_cnt g n hg, wsum_cnt h n hh, cnt_bij (p := fun c => decide (g c = 1)) (q := fun c => decide (h c = 1)) hσ fun c hc => by rw [e c hc], cnt_bij (p := fun c => decide (g c = -1)) (q := fun c => decide (h c = -1)) hσ fun c hc => by rw [e c hc]]
theorem sumTo_wsum (S : List Int) (f : Nat → Int × Int) (keep : Int → Int → Bool) (k : Nat) : sumTo S f keep k = wsum (fun c => if keep (f c).1 (f c).2 = true then nth S c else 0) k := by
  induction k with
  | zero => rfl
  | succ k ih => rw [sumTo, wsum, ih]; split <;> omega
/-- Do the strands of a crossing differ? -/
def lkB (S M : List Int) (c : Nat) : Bool := decide (st S M (4 * c + 2) ≠ st S M (4 * c + 1))
/-- The writhe; the sum of the signs of the crossings of two strands. -/
def wr (S : List Int) : Int := wsum (nth S) S.length
def tl (S M : List Int) : Int := wsum (fun c => if lkB S M c = true then nth S c else 0) S.length
theorem writhe_wr (S : List Int) (f : Nat → Int × Int) : sumTo S f (fun _ _ => true) S.length = wr S := by
  rw [sumTo_wsum]; exact wsum_congr fun c _ => if_pos rfl
theorem total_tl {S M : List Int} {L : Int} (hv : vldB S M L = true) : sumTo S (ownF (strandsL S M L)) (fun u o => u != o) S.length = tl S M := by
  have hs := vldB_shape hv
  rw [sumTo_wsum]
  refine wsum_congr fun c hc => ?_
  rw [ownF_eq hv c hc]
  have h := ix_eq hs (x := 4 * c + 2) (y := 4 * c + 1) (by omega) (by omega)
  show (if ((ix S M (4 * c + 2) : Int) != (ix S M (4 * c + 1) : Int)) = true then _ else _) = _
  by_cases e : st S M (4 * c + 2) = st S M (4 * c + 1)
  · have h2 := h.2 e
    have h1 : lkB S M c = false := decide_eq_false (fun g => g e)
    rw [h1, h2]; simp
  · have h2 : ix S M (4 * c + 2) ≠ ix S M (4 * c + 1) := fun g => e (h.1 g)
    have h1 : lkB S M c = true := decide_eq_true e
    have h3 : ((ix S M (4 * c + 2) : Int) != (ix S M (4 * c + 1) : Int)) = true := by rw [bne_iff_ne]; omega
    rw [h1, h3]
theorem tl_even {S M : List Int} {L : Int} (hv : vldB S M L = true) : tl S M % 2 = 0 := by
  rw [← total_tl hv, sum_tri S _ _ S.length (owner_lt hv _ (Nat.le_refl _))]
  have h2 : triTo (fun a b => sumTo S (ownF (strandsL S M L)) (isPair a b) S.length) (strandsL S M L).length = triTo (fun a b => 2 * (sumTo S (ownF (strandsL S M L)) (isPair a b) S.length).tdiv 2) (strandsL S M L).length := triTo_congr fun a b hb _ => by
    have := pair_sum_even hv a b (by omega)
    generalize sumTo S (ownF (strandsL S M L)) (isPair a b) S.length = t at *
    rw [Int.mul_comm, Int.tdiv_mul_cancel (Int.dvd_of_emod_eq_zero this)]
  rw [h2, triTo_mul]
  omega
/-- The strands of two passages of one crossing. -/
theorem lkB_of {S M : List Int} {L : Int} (hs : Shape S M L) {x y : Nat} (hx : x < 4 * S.length) (h : x / 4 = y / 4) (hp : x % 2 ≠ y % 2) : lkB S M (x / 4) = decide (st S M x ≠ st S M y) := by
  have hy : y < 4 * S.length := by omega
  unfold lkB
  rcases Nat.mod_two_eq_zero_or_one x with e | e
  · rw [hs.st_even hx e, hs.st_odd hy (by omega), ← h]
  · rw [hs.st_odd hx e, hs.st_even hy (by omega), ← h, decide_eq_decide]
    exact ⟨fun g h => g h.symm, fun g h => g h.symm⟩
theorem tn_par (x : Nat) (e : Int) (he : e = 1 ∨ e = -1) : tn x e % 2 ≠ x % 2 := by
  rcases he with rfl | rfl <;> unfold tn <;> omega
theorem Iso.lk {S S' M M' : List Int} {L L' : Int} {τ : Nat → Nat} {e : Int} (hs : Shape S M L) (hs' : Shape S' M' L') (hl : S'.length = S.length) (h : Iso M M' S.length τ e) (c : Nat) (hc : c < S.length) : lkB S' M' (τ (4 * c) / 4) = lkB S M c := by
  have h0 := h.lt (x := 4 * c) (by omega)
  have h1 := h.turn (4 * c) (by omega)
  have h2 := h.st_eq hs hs' hl (x := 4 * c) (y := tn (4 * c) 1) (by omega) (tn_lt _ _ _ (by omega))
  have a := lkB_of hs' (x := τ (4 * c)) (y := τ (tn (4 * c) 1)) (by omega) (by rw [h1, tn_div]) (by rw [h1]; exact fun e2 => tn_par _ _ h.unit e2.symm)
  have b := lkB_of hs (x := 4 * c) (y := tn (4 * c) 1) (by omega) (by rw [tn_div]) (fun e2 => tn_par _ 1 (.inl rfl) e2.symm)
  rw [show 4 * c / 4 = c from by omega] at b
  rw [a, b, decide_eq_decide, ne_eq, ne_eq, h2]
/-- .. where the crossings keep their numbers. -/
theorem Iso.lk' {S S' M M' : List Int} {L L' : Int} {τ : Nat → Nat} {e : Int} (hs : Shape S M L) (hs' : Shape S' M' L') (hl : S'.length = S.length) (h : Iso M M' S.length τ e) (hd : ∀ x, τ x / 4 = x / 4) (c : Nat) (hc : c < S.length) : lkB S' M' c = lkB S M c := by
  have := Iso.lk hs hs' hl h c hc
  rwa [hd, show 4 * c / 4 = c from by omega] at this
end Go.Proofs.Ytkopbcehfbmnmaa
