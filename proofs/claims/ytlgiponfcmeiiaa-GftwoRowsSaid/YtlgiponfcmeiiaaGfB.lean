/- Plain laws: sparse rows as numbers: what a row's bits are, sums of rows, linear ways. No condition; nothing of the program stands here. -/
import Derived.Test.YtlgiponfcmeiiaaGfA
namespace Go.Proofs.Ytlgiponfcmeiiaa
/-! ### Rows -/
/-- The row of C columns whose ones are x's bits. -/
def rowN (C x : Nat) : List Nat := (List.range C).filter fun k => x.testBit k
def rowOf (C x : Nat) : List Int := (rowN C x).map Int.ofNat
/-- The number of a row. -/
def bit (l : List Int) : Nat := l.foldr (fun c x => 2 ^ c.toNat ^^^ x) 0
/-- Ascending, from 0 to C - 1. -/
def Asc (C : Int) (l : List Int) : Prop := l.Pairwise (· < ·) ∧ ∀ x ∈ l, 0 ≤ x ∧ x < C
theorem bit_nil : bit [] = 0 := rfl
theorem bit_cons (c : Int) (l : List Int) : bit (c :: l) = 2 ^ c.toNat ^^^ bit l := rfl
theorem mem_rowN {C x k : Nat} : k ∈ rowN C x ↔ k < C ∧ x.testBit k = true := by simp [rowN]
theorem mem_rowOf {C x : Nat} {c : Int} : c ∈ rowOf C x ↔ 0 ≤ c ∧ c < C ∧ x.testBit c.toNat = true := by
  unfold rowOf
  rw [List.mem_map]
  constructor
  · rintro ⟨k, hk, rfl⟩
    rw [mem_rowN] at hk
    exact ⟨Int.natCast_nonneg k, Int.ofNat_lt.2 hk.1, hk.2⟩
  · rintro ⟨h1, h2, h3⟩
    exact ⟨c.toNat, mem_rowN.2 ⟨by omega, h3⟩, by show ((c.toNat : Nat) : Int) = c; omega⟩
theorem rowOf_asc (C x : Nat) : Asc C (rowOf C x) := by
  refine ⟨?_, fun c hc => ?_⟩
  · unfold rowOf rowN
    rw [List.pairwise_map]
    refine List.Pairwise.imp (fun {a b} h => ?_) (List.Pairwise.filter _ List.pairwise_lt_range)
    exact Int.ofNat_lt.2 h
  · rw [mem_rowOf] at hc
    exact ⟨hc.1, hc.2.1⟩
theorem Asc.tail {C c : Int} {l : List Int} (h : Asc C (c :: l)) : Asc C l := ⟨(List.pairwise_cons.1 h.1).2, fun x hx => h.2 x (List.mem_cons_of_mem _ hx)⟩
theorem bit_test {C : Int} {l : List Int} (h : Asc C l) (k : Nat) : (bit l).testBit k = decide ((k : Int) ∈ l) := by
  induction l with
  | nil => simp [bit_nil]
  | cons c l ih =>
    rw [bit_cons, Nat.testBit_xor, ih h.tail, Nat.testBit_two_pow]
    have h0 := (h.2 c List.mem_cons_self).1
    have hp := (List.pairwise_cons.1 h.1).1
    by_cases e : c.toNat = k
    · have e2 : c = (k : Int) := by omega
      have h1 : ¬ ((k : Int) ∈ l) := fun hm => by have := hp _ hm; omega
      rw [decide_eq_true e, decide_eq_false h1, decide_eq_true (by rw [e2]; exact List.mem_cons_self)]; rfl
    · have e2 : c ≠ (k : Int) := by omega
      rw [decide_eq_false e, Bool.false_xor]
      congr 1
      rw [List.mem_cons]
      exact propext ⟨fun g => .inr g, fun g => g.elim (fun g => absurd g.symm e2) id⟩
theorem asc_ext {C : Int} {l r : List Int} (hl : Asc C l) (hr : Asc C r) (h : ∀ c, c ∈ l ↔ c ∈ r) : l = r := by
  have n1 : l.Nodup := hl.1.imp (fun {a b} h => by omega)
  have n2 : r.Nodup := hr.1.imp (fun {a b} h => by omega)
  exact List.Perm.eq_of_pairwise (le := (· < ·)) (fun a b _ _ h1 h2 => by omega) hl.1 hr.1 ((List.perm_ext_iff_of_nodup n1 n2).2 h)
theorem asc_eq {C : Int} {l r : List Int} (hl : Asc C l) (hr : Asc C r) (h : bit l = bit r) : l = r := by
  refine asc_ext hl hr fun c => ?_
  by_cases h0 : 0 ≤ c
  · have h1 := bit_test hl c.toNat
    have h2 := bit_test hr c.toNat
    rw [h, h2] at h1
    rw [show ((c.toNat : Nat) : Int) = c by omega] at h1
    exact (decide_eq_decide.1 h1).symm
  · exact ⟨fun hc => absurd (hl.2 c hc).1 h0, fun hc => absurd (hr.2 c hc).1 h0⟩
theorem bit_lt {C : Nat} {l : List Int} (h : Asc C l) : bit l < 2 ^ C := by
  refine Nat.lt_pow_two_of_testBit _ fun i hi => ?_
  rw [bit_test h, decide_eq_false_iff_not]
  intro hm
  have := (h.2 _ hm).2
  omega
theorem bit_rowOf {C x : Nat} (h : x < 2 ^ C) : bit (rowOf C x) = x := by
  refine Nat.eq_of_testBit_eq fun i => ?_
  rw [bit_test (rowOf_asc C x)]
  by_cases hi : x.testBit i = true
  · rw [hi, decide_eq_true_eq, mem_rowOf]
    refine ⟨by omega, ?_, hi⟩
    have : ¬ C ≤ i := fun hc => by
      rw [Nat.testBit_lt_two_pow (Nat.lt_of_lt_of_le h (Nat.pow_le_pow_right (by omega) hc))] at hi; cases hi
    omega
  · rw [Bool.not_eq_true] at hi
    rw [hi, decide_eq_false_iff_not, mem_rowOf]
    rintro ⟨_, _, h3⟩
    rw [show ((i : Int).toNat) = i by omega, hi] at h3; cases h3
theorem asc_row {C : Nat} {l : List Int} (h : Asc C l) : l = rowOf C (bit l) := asc_eq h (rowOf_asc C _) (bit_rowOf (bit_lt h)).symm
theorem rowOf_inj {C x y : Nat} (hx : x < 2 ^ C) (hy : y < 2 ^ C) (h : rowOf C x = rowOf C y) : x = y := by rw [← bit_rowOf hx, ← bit_rowOf hy, h]
theorem rowOf_zero (C : Nat) : rowOf C 0 = [] := by simp [rowOf, rowN]
theorem rowOf_nil {C x : Nat} (hx : x < 2 ^ C) : rowOf C x = [] ↔ x = 0 := ⟨fun h => rowOf_inj hx (Nat.two_pow_pos C) (h.trans (rowOf_zero C).symm), fun h => by rw [h]; exact rowOf_zero C⟩
theorem rowOf_len (C x : Nat) : (rowOf C x).length ≤ C := by
  unfold rowOf rowN
  rw [List.length_map]
  exact Nat.le_trans (List.length_filter_le _ _) (by simp)
/-- The first number of a row is its number's first bit. -/
theorem rowOf_lead {C x : Nat} {c : Int} {l : List Int} (h : rowOf C x = c :: l) (hx : x < 2 ^ C) : 0 ≤ c ∧ c < C ∧ Lead x c.toNat := by
  have ha := rowOf_asc C x
  rw [h] at ha
  have hc := ha.2 c List.mem_cons_self
  refine ⟨hc.1, hc.2, ?_, fun i hi => ?_⟩
  · have : c ∈ rowOf C x := by rw [h]; exact List.mem_cons_self
    exact (mem_rowOf.1 this).2.2
  · rw [← Bool.not_eq_true]
    intro hb
    have h1 : bit (rowOf C x) = x := bit_rowOf hx
    have h2 := bit_test (rowOf_asc C x) i
    rw [h1, hb, h] at h2
    have h3 : (i : Int) ∈ c :: l := of_decide_eq_true h2.symm
    rcases List.mem_cons.1 h3 with e | e
    · omega
    · have := (List.pairwise_cons.1 ha.1).1 _ e
      omega
/-! ### The sum of two rows -/
def addL : List Int → List Int → List Int
  | [], b => b
  | x :: a, [] => x :: a
  | x :: a, y :: b => if x < y then x :: addL a (y :: b) else if y < x then y :: addL (x :: a) b else addL a b
termination_by a b => a.length + b.length
theorem addL_nil_left (b : List Int) : addL [] b = b := by rw [addL]
theorem addL_nil_right (a : List Int) : addL a [] = a := by cases a <;> rw [addL]
theorem addL_lt {x y : Int} {a b : List Int} (h : x < y) : addL (x :: a) (y :: b) = x :: addL a (y :: b) := by rw [addL, if_pos h]
theorem addL_gt {x y : Int} {a b : List Int} (h : y < x) : addL (x :: a) (y :: b) = y :: addL (x :: a) b := by rw [addL, if_neg (by omega), if_pos h]
theorem addL_eq {x : Int} {a b : List Int} : addL (x :: a) (x :: b) = addL a b := by rw [addL, if_neg (by omega), if_neg (by omega)]
theorem addL_bit (a b : List Int) : bit (addL a b) = bit a ^^^ bit b := by
  induction a, b using addL.induct with
  | case1 b => rw [addL_nil_left, bit_nil, Nat.zero_xor]
  | case2 x a => rw [addL_nil_right, bit_nil, Nat.xor_zero]
  | case3 x a y b h ih => rw [addL_lt h, bit_cons, ih, bit_cons x a, Nat.xor_assoc]
  | case4 x a y b h h2 ih =>
    rw [addL_gt h2, bit_cons, ih, bit_cons y b]
    ac_rfl
  | case5 x a y b h h2 ih =>
    obtain rfl : x = y := by omega
    have e : (2 ^ x.toNat ^^^ bit a) ^^^ (2 ^ x.toNat ^^^ bit b) = (2 ^ x.toNat ^^^ 2 ^ x.toNat) ^^^ (bit a ^^^ bit b) := by ac_rfl
    rw [addL_eq, ih, bit_cons, bit_cons, e, Nat.xor_self, Nat.zero_xor]
theorem addL_mem {a b : List Int} : ∀ {z : Int}, z ∈ addL a b → z ∈ a ∨ z ∈ b := by
  induction a, b using addL.induct with
  | case1 b => intro z h; rw [addL_nil_left] at h; exact .inr h
  | case2 x a => intro z h; rw [addL_nil_right] at h; exact .inl h
  | case3 x a y b h ih =>
    intro z hz
    rw [addL_lt h] at hz
    rcases List.mem_cons.1 hz with e | e
    · exact .inl (by rw [e]; exact List.mem_cons_self)
    · exact (ih e).imp (List.mem_cons_of_mem _) id
  | case4 x a y b h h2 ih =>
    intro z hz
    rw [addL_gt h2] at hz
    rcases List.mem_cons.1 hz with e | e
    · exact .inr (by rw [e]; exact List.mem_cons_self)
    · exact (ih e).imp id (List.mem_cons_of_mem _)
  | case5 x a y b h h2 ih =>
    intro z hz
    obtain rfl : x = y := by omega
    rw [addL_eq] at hz
    exact (ih hz).imp (List.mem_cons_of_mem _) (List.mem_cons_of_mem _)
theorem addL_pair {a b : List Int} : a.Pairwise (· < ·) → b.Pairwise (· < ·) → (addL a b).Pairwise (· < ·) := by
  induction a, b using addL.induct with
  | case1 b => intro _ h; rw [addL_nil_left]; exact h
  | case2 x a => intro h _; rw [addL_nil_right]; exact h
  | case3 x a y b h ih =>
    intro ha hb
    rw [addL_lt h, List.pairwise_cons]
    rw [List.pairwise_cons] at ha
    refine ⟨fun z hz => ?_, ih ha.2 hb⟩
    rcases addL_mem hz with e | e
    · exact ha.1 z e
    · rcases List.mem_cons.1 e with e | e
      · omega
      · have := (List.pairwise_cons.1 hb).1 z e; omega
  | case4 x a y b h h2 ih =>
    intro ha hb
    rw [addL_gt h2, List.pairwise_cons]
    rw [List.pairwise_cons] at hb
    refine ⟨fun z hz => ?_, ih ha hb.2⟩
    rcases addL_mem hz with e | e
    · rcases List.mem_cons.1 e with e | e
      · omega
      · have := (List.pairwise_cons.1 ha).1 z e; omega
    · exact hb.1 z e
  | case5 x a y b h h2 ih =>
    intro ha hb
    obtain rfl : x = y := by omega
    rw [addL_eq]
    exact ih (List.pairwise_cons.1 ha).2 (List.pairwise_cons.1 hb).2
theorem addL_asc {C : Int} {a b : List Int} (ha : Asc C a) (hb : Asc C b) : Asc C (addL a b) :=
  ⟨addL_pair ha.1 hb.1, fun x hx => (addL_mem hx).elim (ha.2 x) (hb.2 x)⟩
theorem addL_row {C x y : Nat} (hx : x < 2 ^ C) (hy : y < 2 ^ C) : addL (rowOf C x) (rowOf C y) = rowOf C (x ^^^ y) := by
  refine asc_eq (addL_asc (rowOf_asc C x) (rowOf_asc C y)) (rowOf_asc C _) ?_
  rw [addL_bit, bit_rowOf hx, bit_rowOf hy, bit_rowOf (Nat.xor_lt_two_pow hx hy)]
theorem addL_len (a b : List Int) : (addL a b).length ≤ a.length + b.length := by
  induction a, b using addL.induct with
  | case1 b => rw [addL_nil_left]; simp
  | case2 x a => rw [addL_nil_right]; simp
  | case3 x a y b h ih => rw [addL_lt h]; simp only [List.length_cons] at *; omega
  | case4 x a y b h h2 ih => rw [addL_gt h2]; simp only [List.length_cons] at *; omega
  | case5 x a y b h h2 ih =>
    obtain rfl : x = y := by omega
    rw [addL_eq]; simp only [List.length_cons] at *; omega
/-! ### Sums of many -/
/-- The sum of all numbers of a list. -/
def xors (l : List Nat) : Nat := l.foldr (· ^^^ ·) 0
theorem xors_nil : xors [] = 0 := rfl
theorem xors_cons (x : Nat) (l : List Nat) : xors (x :: l) = x ^^^ xors l := rfl
theorem xors_append (l r : List Nat) : xors (l ++ r) = xors l ^^^ xors r := by
  induction l with
  | nil => rw [List.nil_append, xors_nil, Nat.zero_xor]
  | cons x l ih => rw [List.cons_append, xors_cons, xors_cons, ih, Nat.xor_assoc]
theorem xors_lt {C : Nat} {l : List Nat} (h : ∀ x ∈ l, x < 2 ^ C) : xors l < 2 ^ C := by
  induction l with
  | nil => exact Nat.two_pow_pos C
  | cons x l ih => exact Nat.xor_lt_two_pow (h x List.mem_cons_self) (ih fun y hy => h y (List.mem_cons_of_mem _ hy))
theorem xors_span {vs l : List Nat} (h : ∀ x ∈ l, spanB vs x = true) : spanB vs (xors l) = true := by
  induction l with
  | nil => exact span_zero vs
  | cons x l ih => exact span_xor (h x List.mem_cons_self) (ih fun y hy => h y (List.mem_cons_of_mem _ hy))
/-! ### Linear ways: the sum of f k over the bits k < C of x -/
def lin (f : Nat → Nat) : Nat → Nat → Nat
  | 0, _ => 0
  | C + 1, x => lin f C x ^^^ (if x.testBit C = true then f C else 0)
theorem lin_zero (f : Nat → Nat) (C : Nat) : lin f C 0 = 0 := by
  induction C with
  | zero => rfl
  | succ C ih => rw [lin, ih, Nat.zero_testBit, if_neg (by decide)]; rfl
theorem lin_nought (f : Nat → Nat) (x : Nat) : lin f 0 x = 0 := rfl
theorem lin_xor (f : Nat → Nat) (C x y : Nat) : lin f C (x ^^^ y) = lin f C x ^^^ lin f C y := by
  induction C with
  | zero => rw [lin_nought, lin_nought, lin_nought, Nat.xor_self]
  | succ C ih =>
    rw [lin, lin, lin, ih, Nat.testBit_xor]
    have e : (lin f C x ^^^ f C) ^^^ (lin f C y ^^^ f C) = (lin f C x ^^^ lin f C y) ^^^ (f C ^^^ f C) := by ac_rfl
    cases x.testBit C <;> cases y.testBit C
    · simp
    · simp [Nat.xor_assoc]
    · simp only [Bool.true_xor, Bool.not_false, if_true, Bool.false_eq_true, if_false, Nat.xor_zero]; ac_rfl
    · simp only [Bool.xor_self, if_true, Bool.false_eq_true, if_false, Nat.xor_zero, e, Nat.xor_self]
theorem lin_lt {f : Nat → Nat} {C D : Nat} (h : ∀ k, k < C → f k < 2 ^ D) (x : Nat) : lin f C x < 2 ^ D := by
  induction C with
  | zero => exact Nat.two_pow_pos D
  | succ C ih =>
    rw [lin]
    refine Nat.xor_lt_two_pow (ih fun k hk => h k (by omega)) ?_
    split
    · exact h C (by omega)
    · exact Nat.two_pow_pos D
theorem lin_congr {f g : Nat → Nat} {C : Nat} (h : ∀ k, k < C → f k = g k) (x : Nat) : lin f C x = lin g C x := by
  induction C with
  | zero => rfl
  | succ C ih => rw [lin, lin, ih fun k hk => h k (by omega), h C (by omega)]
theorem lin_one (f : Nat → Nat) (C k : Nat) (hk : k < C) : lin f C (2 ^ k) = f k := by
  have hz : ∀ D, D ≤ k → lin f D (2 ^ k) = 0 := by
    intro D
    induction D with
    | zero => intro _; rfl
    | succ D ih => intro hD; rw [lin, ih (by omega), Nat.testBit_two_pow, if_neg (by simp; omega), Nat.xor_self]
  induction C with
  | zero => omega
  | succ C ih =>
    rw [lin, Nat.testBit_two_pow]
    by_cases e : k = C
    · subst e; rw [hz k (Nat.le_refl _), if_pos (by simp), Nat.zero_xor]
    · rw [ih (by omega), if_neg (by simp; exact e), Nat.xor_zero]
/-- .. as the sum over a row. -/
theorem lin_row (f : Nat → Nat) (C x : Nat) : xors ((rowN C x).map f) = lin f C x := by
  induction C with
  | zero => rfl
  | succ C ih =>
    rw [lin, ← ih]
    unfold rowN
    rw [List.range_succ, List.filter_append, List.map_append, xors_append]
    congr 1
    by_cases h : x.testBit C = true
    · rw [if_pos h, List.filter_cons_of_pos (by exact h), List.filter_nil, List.map_cons, List.map_nil, xors_cons, xors_nil, Nat.xor_zero]
    · rw [if_neg h, List.filter_cons_of_neg (by exact h), List.filter_nil, List.map_nil, xors_nil]
theorem lin_span {f : Nat → Nat} {C : Nat} {vs : List Nat} (h : ∀ k, k < C → spanB vs (f k) = true) (x : Nat) : spanB vs (lin f C x) = true := by
  rw [← lin_row]
  refine xors_span fun y hy => ?_
  obtain ⟨k, hk, rfl⟩ := List.mem_map.1 hy
  exact h k (mem_rowN.1 hk).1
/-- Different powers: each bit goes its own way. -/
theorem lin_pow_test {p : Nat → Nat} {C : Nat} (hp : ∀ i k, i < C → k < C → p i = p k → i = k) (x k : Nat) (hk : k < C) : (lin (fun i => 2 ^ p i) C x).testBit (p k) = x.testBit k := by
  have hz : ∀ D k, D ≤ k → k < C → (lin (fun i => 2 ^ p i) D x).testBit (p k) = false := by
    intro D
    induction D with
    | zero => intro k _ _; exact Nat.zero_testBit _
    | succ D ih =>
      intro k h1 h2
      rw [lin, Nat.testBit_xor, ih k (by omega) h2]
      have hne : p D ≠ p k := fun e => by have := hp D k (by omega) h2 e; omega
      split
      · rw [Nat.testBit_two_pow, decide_eq_false hne]; rfl
      · rw [Nat.zero_testBit]; rfl
  have main : ∀ D, D ≤ C → ∀ k, k < D → (lin (fun i => 2 ^ p i) D x).testBit (p k) = x.testBit k := by
    intro D
    induction D with
    | zero => intro _ k h; omega
    | succ D ih =>
      intro hD k hk
      rw [lin, Nat.testBit_xor]
      by_cases e : k = D
      · subst e
        rw [hz k k (Nat.le_refl _) (by omega), Bool.false_xor]
        by_cases h : x.testBit k = true
        · rw [if_pos h, h, Nat.testBit_two_pow, decide_eq_true rfl]
        · rw [if_neg h, Nat.zero_testBit]; simpa using h
      · rw [ih (by omega) k (by omega)]
        have hne : p D ≠ p k := fun g => e (hp D k (by omega) (by omega) g).symm
        split
        · rw [Nat.testBit_two_pow, decide_eq_false hne, Bool.xor_false]
        · rw [Nat.zero_testBit, Bool.xor_false]
  exact main C (Nat.le_refl _) k hk
theorem lin_pow_inj {p : Nat → Nat} {C : Nat} (hp : ∀ i k, i < C → k < C → p i = p k → i = k) {x : Nat} (hx : x < 2 ^ C) (h : lin (fun i => 2 ^ p i) C x = 0) : x = 0 := by
  refine Nat.eq_of_testBit_eq fun i => ?_
  rw [Nat.zero_testBit]
  by_cases hi : i < C
  · rw [← lin_pow_test hp x i hi, h, Nat.zero_testBit]
  · exact Nat.testBit_lt_two_pow (Nat.lt_of_lt_of_le hx (Nat.pow_le_pow_right (by omega) (by omega)))
/-- A renaming keeps the rank. -/
theorem rk_renamed {p : Nat → Nat} {C : Nat} (hp : ∀ i k, i < C → k < C → p i = p k → i = k) {vs : List Nat} (hv : ∀ v ∈ vs, v < 2 ^ C) : rk (vs.map (lin (fun i => 2 ^ p i) C)) = rk vs :=
  rk_map (lin_zero _ C) (lin_xor _ C) hv fun _ hx h => lin_pow_inj hp hx h
/-- The row of the renamed number holds the renamed columns. -/
theorem mem_renamed {p : Nat → Nat} {C : Nat} (hp : ∀ i k, i < C → k < C → p i = p k → i = k) (hlt : ∀ i, i < C → p i < C) (x : Nat) (k : Nat) : k ∈ rowN C (lin (fun i => 2 ^ p i) C x) ↔ ∃ i, i ∈ rowN C x ∧ p i = k := by
  rw [mem_rowN]
  constructor
  · rintro ⟨_, h⟩
    rw [← lin_row] at h
    have : ∀ l : List Nat, (xors (l.map fun i => 2 ^ p i)).testBit k = true → ∃ i, i ∈ l ∧ p i = k := by
      intro l
      induction l with
      | nil => intro h; rw [List.map_nil, xors_nil, Nat.zero_testBit] at h; cases h
      | cons i l ih =>
        intro h
        rw [List.map_cons, xors_cons, Nat.testBit_xor, Nat.testBit_two_pow] at h
        by_cases e : p i = k
        · exact ⟨i, List.mem_cons_self, e⟩
        · rw [decide_eq_false e, Bool.false_xor] at h
          obtain ⟨j, hj, hk⟩ := ih h
          exact ⟨j, List.mem_cons_of_mem _ hj, hk⟩
    exact this _ h
  · rintro ⟨i, hi, rfl⟩
    rw [mem_rowN] at hi
    exact ⟨hlt i hi.1, by rw [lin_pow_test hp x i hi.1]; exact hi.2⟩
end Go.Proofs.Ytlgiponfcmeiiaa
